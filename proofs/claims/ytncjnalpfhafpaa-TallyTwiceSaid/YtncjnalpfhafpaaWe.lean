/- The walk of TallyXors. Conditions: the bytes lie in memory. -/
import Derived.Test.YtncjnalpfhafpaaWd
import Derived.Test.YtncjnalpfhafpaaQB
import Derived.Deep.RegionWith
import Derived.Deep.DeepCutAuto
import Derived.BigQuiet
import Derived.Deep.QuietTactic
namespace Go.Proofs.Ytncjnalpfhafpaa
open Go.RowKit

theorem info5 : (Try.prog.info? 5).map (fun i => (i.zero, i.size, i.bytes)) = some (some (.int .u8 0), 1, 1) := by kernel_rfl

/-- the xor of three bytes of three rows. -/
def x3 (za zb zc : List Int) (j : Nat) : Int := bits .xor .u8 (bits .xor .u8 (za.getD j 0) (zb.getD j 0)) (zc.getD j 0)
/-- a row of n numbers of which the first k are known. -/
def upd (n k : Nat) (f : Nat → Int) : List Int := (List.range n).map fun j => if j < k then f j else 0
theorem upd_zero (n : Nat) (f : Nat → Int) : (upd n 0 f).map (Value.int .u8) = List.replicate n (.int .u8 0) := by
  unfold upd
  apply List.ext_getElem <;> simp
theorem upd_set (n k : Nat) (f : Nat → Int) : ((upd n k f).map (Value.int .u8)).set k (.int .u8 (f k)) = (upd n (k + 1) f).map (Value.int .u8) := by
  unfold upd
  apply List.ext_getElem
  · simp
  · intro i h1 h2
    simp only [List.getElem_set, List.getElem_map, List.getElem_range]
    by_cases e : k = i
    · subst e; simp
    · by_cases e2 : i < k
      · simp [e, e2, show i < k + 1 by omega]
      · simp [e, e2, show ¬ i < k + 1 by omega]

/-- an element of bytes, with its place. -/
theorem Bytes.get {w : World} {a : Option Addr} {len : Nat} {zs : List Int} (hB : Bytes w a len zs) (k : Nat) (h : k < len) :
    ∃ b off x, a = some ⟨b, off, none⟩ ∧ w.cell? ⟨b, off + k, none⟩ = some (.int .u8 x) ∧ 0 ≤ x ∧ x < 256 ∧ x = zs.getD k 0 ∧ b < w.heap.size := by
  obtain ⟨hl, hr, hm, hB⟩ := hB
  obtain ⟨b, off, rfl, hc⟩ := hB.resolve_left (by omega)
  have hr' := getD_range zs _ hr k (by omega)
  exact ⟨b, off, _, rfl, hc k h, hr'.1, hr'.2, rfl, World.block_lt_of_cell? _ _ (hc k h)⟩

theorem rel_x {wc wr : World} {n k : Nat} {za zb zc : List Int} {v : Int} (hown : wr.ownsRow wc.heap.size 5 1 (.slice (some ⟨wc.heap.size, 0, none⟩) n n) n ((upd n k (x3 za zb zc)).map (Value.int .u8)))
    (hbel : Below wc.heap.size wc wr) (E : v = x3 za zb zc k) :
    (wr.setCell ⟨wc.heap.size, k, none⟩ (.int .u8 v)).drew.ownsRow wc.heap.size 5 1 (.slice (some ⟨wc.heap.size, 0, none⟩) n n) n ((upd n (k + 1) (x3 za zb zc)).map (Value.int .u8)) ∧ Below wc.heap.size wc (wr.setCell ⟨wc.heap.size, k, none⟩ (.int .u8 v)).drew := by
  subst E
  have h := (hown.stored k (.int .u8 (x3 za zb zc k))).1
  rw [upd_set] at h
  exact ⟨h.drew, (hbel.setCell (Nat.le_refl _) _).drew⟩

theorem x3_range {za zb zc : List Int} {j : Nat} (ha : ∀ n ∈ za, 0 ≤ n ∧ n < 256) (hb : ∀ n ∈ zb, 0 ≤ n ∧ n < 256) (hc : ∀ n ∈ zc, 0 ≤ n ∧ n < 256) (h1 : j < za.length) (h2 : j < zb.length) (h3 : j < zc.length) :
    x3 za zb zc j = ((((za.getD j 0).toNat ^^^ (zb.getD j 0).toNat) ^^^ (zc.getD j 0).toNat : Nat) : Int) ∧ 0 ≤ x3 za zb zc j ∧ x3 za zb zc j < 256 := by
  have a1 := getD_range za _ ha j h1
  have b1 := getD_range zb _ hb j h2
  have c1 := getD_range zc _ hc j h3
  unfold x3
  rw [u8_xor _ _ a1.1 a1.2 b1.1 b1.2]
  have h4 : (za.getD j 0).toNat ^^^ (zb.getD j 0).toNat < 2 ^ 8 := Nat.xor_lt_two_pow (by omega) (by omega)
  rw [u8_xor _ _ (by omega) (by omega) c1.1 c1.2]
  have h5 : ((za.getD j 0).toNat ^^^ (zb.getD j 0).toNat) ^^^ (zc.getD j 0).toNat < 2 ^ 8 := Nat.xor_lt_two_pow h4 (by omega)
  refine ⟨by rw [Int.toNat_natCast], by omega, ?_⟩
  rw [Int.toNat_natCast]; omega

theorem upd_full (n : Nat) (f : Nat → Int) : upd n n f = (List.range n).map f := by
  unfold upd
  apply List.map_congr_left
  intro j hj
  simp at hj
  simp [hj]
theorem run_x3 {za zb zc : List Int} (ha : ∀ n ∈ za, 0 ≤ n ∧ n < 256) (hb : ∀ n ∈ zb, 0 ≤ n ∧ n < 256) (hc : ∀ n ∈ zc, 0 ≤ n ∧ n < 256) (s : BitVec 32) : ∀ n, n ≤ za.length → n ≤ zb.length → n ≤ zc.length →
    Tally.run (s ^^^ s ^^^ s) ((List.range n).map (x3 za zb zc)) = Tally.run s (za.take n) ^^^ Tally.run s (zb.take n) ^^^ Tally.run s (zc.take n) := by
  intro n
  induction n with
  | zero => intro _ _ _; rfl
  | succ n ih =>
    intro h1 h2 h3
    rw [List.range_succ, List.map_append, List.map_cons, List.map_nil, Tally.run_snoc, ih (by omega) (by omega) (by omega), take_snoc za n (by omega), take_snoc zb n (by omega), take_snoc zc n (by omega), Tally.run_snoc, Tally.run_snoc, Tally.run_snoc]
    refine Tally.put_xor _ _ _ _ _ _ _ ?_
    have a1 := getD_range za _ ha n h1
    have b1 := getD_range zb _ hb n h2
    have c1 := getD_range zc _ hc n h3
    rw [(x3_range ha hb hc h1 h2 h3).1]
    rw [Tally.ofInt_xor ((((za.getD n 0).toNat ^^^ (zb.getD n 0).toNat) : Nat) : Int) (zc.getD n 0) _ (Int.natCast_nonneg _) c1.1 (by rw [Int.toNat_natCast])]
    rw [Tally.ofInt_xor (za.getD n 0) (zb.getD n 0) _ a1.1 b1.1 rfl]
theorem xors_law {za zb zc : List Int} (ha : ∀ n ∈ za, 0 ≤ n ∧ n < 256) (hb : ∀ n ∈ zb, 0 ≤ n ∧ n < 256) (hc : ∀ n ∈ zc, 0 ≤ n ∧ n < 256) (n : Nat) (h1 : n ≤ za.length) (h2 : n ≤ zb.length) (h3 : n ≤ zc.length) :
    Tally.sum ((List.range n).map (x3 za zb zc)) = Tally.sum (za.take n) ^^^ Tally.sum (zb.take n) ^^^ Tally.sum (zc.take n) := by
  unfold Tally.sum Tally.more
  rw [← Tally.not_xor3, ← run_x3 ha hb hc _ n h1 h2 h3]
  congr 2

theorem Bytes.take {w : World} {a : Option Addr} {len : Nat} {zs : List Int} (h : Bytes w a len zs) (n : Nat) (hn : n ≤ len) : Bytes w a n (zs.take n) := by
  obtain ⟨h1, h2, h3, h4⟩ := h
  refine ⟨by simp; omega, fun x hx => h2 x (List.mem_of_mem_take hx), by omega, ?_⟩
  by_cases h0 : n = 0
  · exact .inl h0
  · obtain ⟨b, off, rfl, hc⟩ := h4.resolve_left (by omega)
    refine .inr ⟨b, off, rfl, fun i hi => ?_⟩
    rw [hc i (by omega)]
    simp [List.getD, hi]
/-- an owned row of bytes is bytes. -/
theorem Bytes.of_own {w : World} {base e : Nat} {g n cap : Nat} {zs : List Int} (h : w.ownsRow base e 1 (.slice (some ⟨g, 0, none⟩) n cap) n (zs.map (Value.int .u8))) (hr : ∀ x ∈ zs, 0 ≤ x ∧ x < 256) (hm : n ≤ maxLen) : Bytes w (some ⟨g, 0, none⟩) n zs := by
  have hl : zs.length = n := by simpa using h.1
  refine ⟨hl, hr, hm, .inr ⟨g, 0, rfl, fun i hi => ?_⟩⟩
  rw [Nat.zero_add, h.cellAt i (by omega)]
  simp [hl, hi]

theorem sum_x {wc wr : World} {n la lb lc : Nat} {a b c : Option Addr} {za zb zc : List Int} (hbel : Below wc.heap.size wc wr) (ha : Ints .u8 wc a la za) (hb : Ints .u8 wc b lb zb) (hc : Ints .u8 wc c lc zc)
    (hown : wr.ownsRow wc.heap.size 5 1 (.slice (some ⟨wc.heap.size, 0, none⟩) n n) n ((upd n n (x3 za zb zc)).map (Value.int .u8))) (hna : n ≤ la) (hnb : n ≤ lb) (hnc : n ≤ lc) :
    ∃ A' B' C' X', (((Tally.sum X').toNat : Int) == bits .xor .u32 (bits .xor .u32 (Tally.sum A').toNat (Tally.sum B').toNat) (Tally.sum C').toNat) = true ∧
      ∀ w2, Below wr.heap.size wr w2 → Bytes w2 a n A' ∧ Bytes w2 b n B' ∧ Bytes w2 c n C' ∧ Bytes w2 (some ⟨wc.heap.size, 0, none⟩) n X' := by
  have qa := Bytes.of_ints ha
  have qb := Bytes.of_ints hb
  have qc := Bytes.of_ints hc
  have h1 : n ≤ za.length := by rw [qa.1]; exact hna
  have h2 : n ≤ zb.length := by rw [qb.1]; exact hnb
  have h3 : n ≤ zc.length := by rw [qc.1]; exact hnc
  refine ⟨za.take n, zb.take n, zc.take n, (List.range n).map (x3 za zb zc), ?_, fun w2 hb2 => ⟨((qa.take n hna).below hbel).below hb2, ((qb.take n hnb).below hbel).below hb2, ((qc.take n hnc).below hbel).below hb2, ?_⟩⟩
  · rw [xors_law qa.2.1 qb.2.1 qc.2.1 n h1 h2 h3, xor_left, xor_left, ofInt_toNat, ofInt_toNat]
    simp
  · rw [upd_full] at hown
    refine (Bytes.of_own hown ?_ (Nat.le_trans hna qa.2.2.1)).below hb2
    intro x hx
    obtain ⟨j, hj, rfl⟩ := List.mem_map.1 hx
    have hj' := List.mem_range.1 hj
    exact (x3_range qa.2.1 qb.2.1 qc.2.1 (by omega) (by omega) (by omega)).2

theorem Addr.add0 (a : Addr) : a.add 0 = a := by simp [Addr.add]
/-- the first k elements of a slice, as the program cuts them. -/
theorem run_front (a : Option Addr) (len cap k : Nat) (h : k ≤ cap) (w : World) : (Instr.sliceAt 22 (.slice a len cap) none (some (.int .i64 (k : Int))) none).run Try.prog w = .ok (.slice a k cap) w := by
  have e : (sizeOf (Try.prog.elem 22)).run Try.prog w = .ok 1 w := by kernel_rfl
  rw [run_sliceAt_slice w 22 _ _ _ _ Try.underlying22, run_slice_h w 22 a len cap Try.underlying22 .i64 k (by omega) (by omega), e]
  simp only [Result.andThen, sliced, Nat.zero_mul, Int.toNat_natCast, Nat.sub_zero]
  have : a.map (fun x => x.add 0) = a := by cases a <;> simp [Addr.add0]
  rw [this]
  simp
set_option maxHeartbeats 800000 in
theorem tallyXors_walk (W : World) (a : Option Addr) (la ca : Nat) (za : List Int) (ha : Ints .u8 W a la za) (_hca : la ≤ ca) (_hra : la * 1 ≤ 140737488351232)
    (b : Option Addr) (lb cb : Nat) (zb : List Int) (hb : Ints .u8 W b lb zb) (_hcb : lb ≤ cb) (_hrb : lb * 1 ≤ 140737488351232)
    (c : Option Addr) (lc cc : Nat) (zc : List Int) (hc : Ints .u8 W c lc zc) (_hcc : lc ≤ cc) (_hrc : lc * 1 ≤ 140737488351232) :
    Calls Try.prog 7 #[.slice a la ca, .slice b lb cb, .slice c lc cc] W fun e W' => e = .returned (.bool true) ∧ Below W.heap.size W W' := by
  obtain ⟨i0, hi, hz0, hz1, hz2⟩ := info_parts info5
  have hma := ha.2.2.1
  have hmb := hb.2.2.1
  have hmc := hc.2.2.1
  unfold maxLen at hma hmb hmc
  go_enter Try.func7, Try.ntmps7
  go_upto_region 1 with fail
  go_cut [7] (fun v w' => w' = W ∧ ∃ n : Nat, v = .int .i64 n ∧ n ≤ la ∧ n ≤ lb ∧ n ≤ lc)
  case first =>
    go_wp2
    all_goals (go_meet; refine ⟨rfl, ?_⟩)
    all_goals first | exact ⟨la, rfl, by omega, by omega, by omega⟩ | exact ⟨lb, rfl, by omega, by omega, by omega⟩ | exact ⟨lc, rfl, by omega, by omega, by omega⟩
  case rest =>
    obtain ⟨rfl, n, rfl, hna, hnb, hnc⟩ := hcut
    go_wp2_with (refine wpList_make_full _ rfl _ _ 22 rfl wc.heap.size 5 i0 (.int .u8 0) 1 Try.underlying22 hi hz0 hz1 .i64 .i64 _ _ n rfl rfl rfl rfl ?c1 ?c2 ?c3 ?_)
    case c1 => rw [hz2]; omega
    case c2 => unfold maxLen; omega
    case c3 => exact Nat.le_refl _
    intro w1 hown hg
    have hb1 : Below wc.heap.size wc w1 := (Below.refl _ _).grown hg (Nat.le_refl _) (fun k h => by cases h)
    have hown1 : w1.ownsRow wc.heap.size 5 1 (.slice (some ⟨wc.heap.size, 0, none⟩) n n) n ((upd n 0 (x3 za zb zc)).map (Value.int .u8)) := by
      rw [upd_zero]; simpa [Value.cells, toList_madeCells_one] using hown
    clear hown hg
    go_wp2
    go_loopw [21] (fun i wr => ∃ k : Nat, k ≤ n ∧ i = .int .i64 k ∧ wr.ownsRow wc.heap.size 5 1 (.slice (some ⟨wc.heap.size, 0, none⟩) n n) n ((upd n k (x3 za zb zc)).map (Value.int .u8)) ∧ Below wc.heap.size wc wr) (fun i _ => n - (intOf i).toNat)
    case atStart => exact ⟨0, Nat.zero_le _, rfl, hown1, hb1⟩
    case round =>
      obtain ⟨k, hk, rfl, hown, hbel⟩ := hrel
      by_cases hlt : k < n
      · obtain ⟨ba, oa, x, rfl, cx, x0, x1, ex, lx⟩ := (Bytes.of_ints ha).get k (by omega)
        obtain ⟨bb, ob, y, rfl, cy, y0, y1, ey, ly⟩ := (Bytes.of_ints hb).get k (by omega)
        obtain ⟨bc, oc, z, rfl, cz, z0, z1, ez, lz⟩ := (Bytes.of_ints hc).get k (by omega)
        rw [← hbel.cell (by exact lx)] at cx
        rw [← hbel.cell (by exact ly)] at cy
        rw [← hbel.cell (by exact lz)] at cz
        have E : Hid (bits .xor .u8 (bits .xor .u8 x y) z = x3 za zb zc k) := by unfold x3; rw [← ex, ← ey, ← ez]; exact rfl
        have HO := Lib.hid hown
        have hfz := hown.frozenAt k
        have hck := hown.cellAt k (by omega)
        rw [show ((upd n k (x3 za zb zc)).map (Value.int .u8))[k]? = some (.int .u8 0) by simp [upd, hlt]] at hck
        clear ex ey ez hown hown1 hb1 ha hb hc
        go_upto_region 6 with fail
        go_region
        have R := rel_x HO.out hbel E.out
        clear HO hbel E hck hfz cx cy cz
        go_wp2
        go_roundw
        case rel => exact ⟨k + 1, by omega, by go_num, R⟩
        case measure => simp [intOf]; omega
      · obtain rfl : k = n := by omega
        obtain ⟨A', B', C', X', hE, q⟩ := sum_x hbel ha hb hc hown hna hnb hnc
        clear hown hown1 ha hb hc
        go_wp2
        have sa := run_front a la ca k (by omega)
        have sb := run_front b lb cb k (by omega)
        have sc := run_front c lc cc k (by omega)
        refine wp_region_below (B := wr.heap.size) (w0 := wr) (by kernel_rfl) (by kernel_rfl) (Below.refl _ _) ?_
        go_big_quiet_want; apply quiet_call (f := 10); (· (intro w hw; go_simp; try rfl)); (· (exact fun w hw => in_below (alive_any w) hw (Nat.le_refl _))); simp only [Act.put, List.setIfInBounds_toArray, List.set_cons_succ, List.set_cons_zero]; go_big_quiet_on
        go_big_quiet_want; go_big_quiet_op; go_big_quiet_on
        go_big_quiet_want; go_big_quiet_op; go_big_quiet_on
        go_big_quiet_want; apply quiet_call (f := 11); (· (intro w hw; go_simp; try rfl)); (· (exact fun w hw => in_class (sum_any _ _ _ _ w (q w hw).2.2.2) hw)); simp only [Act.put, List.setIfInBounds_toArray, List.set_cons_succ, List.set_cons_zero]; go_big_quiet_on
        go_big_quiet_want; go_big_quiet_op; go_big_quiet_on
        go_big_quiet_want; go_big_quiet_op; go_big_quiet_on
        go_big_quiet_want; apply quiet_value; (· (intro w hw; go_simp; try rfl)); simp only [Act.put, List.setIfInBounds_toArray, List.set_cons_succ, List.set_cons_zero]; go_big_quiet_on
        go_big_quiet_want; apply quiet_call (f := 11); (· (intro w hw; go_simp; try rfl)); (· (exact fun w hw => in_class (sum_any _ _ _ _ w (q w hw).1) hw)); simp only [Act.put, List.setIfInBounds_toArray, List.set_cons_succ, List.set_cons_zero]; go_big_quiet_on
        go_big_quiet_want; go_big_quiet_op; go_big_quiet_on
        go_big_quiet_want; go_big_quiet_op; go_big_quiet_on
        go_big_quiet_want; apply quiet_value; (· (intro w hw; go_simp; try rfl)); simp only [Act.put, List.setIfInBounds_toArray, List.set_cons_succ, List.set_cons_zero]; go_big_quiet_on
        go_big_quiet_want; apply quiet_call (f := 11); (· (intro w hw; go_simp; try rfl)); (· (exact fun w hw => in_class (sum_any _ _ _ _ w (q w hw).2.1) hw)); simp only [Act.put, List.setIfInBounds_toArray, List.set_cons_succ, List.set_cons_zero]; go_big_quiet_on
        go_big_quiet_want; apply quiet_value; (· (intro w hw; go_simp; try rfl)); simp only [Act.put, List.setIfInBounds_toArray, List.set_cons_succ, List.set_cons_zero]; go_big_quiet_on
        go_big_quiet_want; go_big_quiet_op; go_big_quiet_on
        go_big_quiet_want; go_big_quiet_op; go_big_quiet_on
        go_big_quiet_want; apply quiet_value; (· (intro w hw; go_simp; try rfl)); simp only [Act.put, List.setIfInBounds_toArray, List.set_cons_succ, List.set_cons_zero]; go_big_quiet_on
        go_big_quiet_want; apply quiet_call (f := 11); (· (intro w hw; go_simp; try rfl)); (· (exact fun w hw => in_class (sum_any _ _ _ _ w (q w hw).2.2.1) hw)); simp only [Act.put, List.setIfInBounds_toArray, List.set_cons_succ, List.set_cons_zero]; go_big_quiet_on
        go_big_quiet_want; apply quiet_value; (· (intro w hw; go_simp; try rfl)); simp only [Act.put, List.setIfInBounds_toArray, List.set_cons_succ, List.set_cons_zero]; go_big_quiet_on
        go_big_quiet_want; apply quiet_value; (· (intro w hw; go_simp; try rfl)); simp only [Act.put, List.setIfInBounds_toArray, List.set_cons_succ, List.set_cons_zero]; go_big_quiet_on
        go_big_quiet_want; apply quiet_value; (· (intro w hw; go_simp; try rfl)); simp only [Act.put, List.setIfInBounds_toArray, List.set_cons_succ, List.set_cons_zero]; go_big_quiet_on
        go_big_quiet_want; go_big_quiet_op; go_big_quiet_on
        refine wpQuiet_nil ?_
        intro w2 hb2
        go_wp2
        go_ret
        exact ⟨rfl, hbel.trans (hb2.mono hbel.size)⟩
end Go.Proofs.Ytncjnalpfhafpaa
