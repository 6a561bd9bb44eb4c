/- platter: Crash. Conditions: the disk lies in the call's own memory. -/
import Derived.Test.YtdiboicllolcnaaPh
namespace Go.Proofs.Ytdiboicllolcnaa
open Go Go.RowKit
set_option linter.unusedVariables false
set_option linter.unusedSimpArgs false
variable {w w' : World} {base n : Nat} {V V' V'' : Vs} {D : Dk}

def keepN (D : Dk) (keep : Int) : Nat := (min (max keep 0) (D.wait.length : Int)).toNat
def tearN (tear : Int) : Nat := (min (max tear 0) 64).toNat
/-- a sector that was torn. -/
def torn (s x : Sec) (t : Nat) : Sec := x.take t ++ s.drop t
def crashL (D : Dk) (keep tear : Int) : List Sec :=
  match D.wait[keepN D keep]? with
  | some x => (laid D.firm (D.wait.take (keepN D keep))).set x.1 (torn ((laid D.firm (D.wait.take (keepN D keep))).getD x.1 []) x.2 (tearN tear))
  | none => laid D.firm (D.wait.take (keepN D keep))
def crashD (D : Dk) (keep tear : Int) : Dk := { now := crashL D keep tear, firm := crashL D keep tear, wait := [], armed := 0, dead := false }
theorem wpList_copy_cells {w : World} {ops : Array Oper} {rest : List Oper} {o : Oper} {a : Act} {Q : Exit → Act → World → Prop} (hgd : Region.wanted o (yielded ops a.tmps) = true) (d s : Operand) (t t' : TypeId)
    (ho : o.op = .call { callee := .builtin .copy, args := #[d, s], argTypes := #[t, t'] })
    (e : TypeId) (ht : Try.prog.underlying t = some (.slice e)) (hi : (Try.prog.info? e).map (·.size) = some 1)
    (g off dLen dCap : Nat) (hd : a.eval d = .slice (some ⟨g, off, none⟩) dLen dCap)
    (ad : Addr) (sLen sCap : Nat) (cs : List Value) (hs : a.eval s = .slice (some ad) sLen sCap) (hn : cs.length = Nat.min sLen dLen)
    (hsrc : ∀ j v, cs[j]? = some v → w.cell? (ad.add j) = some v) (hth : w.there g off cs.length) (h1 : ∀ v ∈ cs, v.oneCell' = true)
    (h : wpList Try.prog ops Q rest (a.put o.dst (goInt cs.length)) (w.setCells g off cs)) : wpList Try.prog ops Q (o :: rest) a w := by
  refine BigFrame.wpList_want hgd fun K hK => ?_
  have hr := run_copy_cells (P := Try.prog) w t t' o.type e g off dLen dCap ad sLen sCap cs ht hi hn hsrc (fun j hj => (hth j hj).1) (fun j hj => (hth j hj).2) h1
  unfold Oper.wp execOp
  simp only [ho, resolve, invoke, builtin, Sem.run_bind, Sem.run_pure, Result.andThen_ok, List.map_toArray, List.map_cons, List.map_nil, hd, hs, hr]
  exact hK _ _ h
theorem below_sets {B : Nat} (h : Below B w w') {g : Nat} (hg : B ≤ g) (o : Nat) (vs : List Value) : Below B w (w'.setCells g o vs) := by
  induction vs generalizing o w' with
  | nil => exact h
  | cons v vs ih => exact ih (h.setCell (p := ⟨g, o, none⟩) hg v) _
theorem slice_arr (g o T : Nat) (hT : T ≤ 64) (w : World) : (Instr.sliceAt 81 (.pointer (some ⟨g, o, none⟩)) none (some (.int .i64 (T : Int))) none).run Try.prog w = .ok (.slice (some ⟨g, o, none⟩) T 64) w := by
  have hu : Try.prog.underlying 81 = some (.array (Try.prog.arrayLen 81) (Try.prog.elem 81)) := Try.underlying81
  have h64 : Try.prog.arrayLen 81 = 64 := by kernel_rfl
  rw [run_sliceAt_array_h w 81 _ hu .i64 T (by omega) (by rw [h64]; omega)]
  have hs : (sizeOf (Try.prog.elem 81)).run Try.prog w = .ok 1 w := by kernel_rfl
  simp [h64, hs, slicedAt, Addr.add]
theorem bc_torn (s x : Sec) (t : Nat) : bc (torn s x t) = (bc x).take t ++ (bc s).drop t := by simp [bc, torn, List.map_take, List.map_drop]
theorem torn_len {s x : Sec} (hs : s.length = 64) (hx : x.length = 64) (t : Nat) (ht : t ≤ 64) : (torn s x t).length = 64 := by simp [torn, hs, hx]; omega
theorem own_torn {l : List Sec} {c g m : Nat} (h : w.ownsRow base 81 64 (.slice (some ⟨g, 0, none⟩) m c) m (secCells l)) (hf : Full l) (hm : l.length = m) (k : Nat) (s x : Sec) (hk : l[k]? = some s) (hx : x.length = 64) (t : Nat) (ht : t ≤ 64) :
    (w.setCells g (k * 64) ((bc x).take t)).ownsRow base 81 64 (.slice (some ⟨g, 0, none⟩) m c) m (secCells (l.set k (torn s x t))) := by
  have hlt := (List.getElem?_eq_some_iff.1 hk).1
  have hs := hf s (List.mem_of_getElem? hk)
  have ht' : ((bc x).take t).length = t := by rw [List.length_take, bc_len]; omega
  have h1 := own_sets ((bc x).take t) (k * 64) w (secCells l) h (by rw [ht']; omega)
  rw [ht'] at h1
  have e : secCells (l.set k (torn s x t)) = (secCells l).take (k * 64) ++ (bc x).take t ++ (secCells l).drop (k * 64 + t) := by
    rw [← sets_secs hf k (torn s x t) hlt (torn_len hs hx t ht), show (bc (torn s x t)).length = 64 by rw [bc_len, torn_len hs hx t ht], bc_torn]
    have h2 : (secCells l).drop (k * 64 + t) = (bc s).drop t ++ (secCells l).drop (k * 64 + 64) := by
      unfold secCells
      have hd : l.drop k = s :: l.drop (k + 1) := by rw [List.drop_eq_getElem_cons hlt]; congr 1; exact (List.getElem?_eq_some_iff.1 hk).2
      rw [← List.drop_drop, fm_drop bc 64 l hf.bc, hd, List.flatMap_cons, List.drop_append_of_le_length (by rw [bc_len]; omega), show k * 64 + 64 = (k + 1) * 64 by omega, fm_drop bc 64 l hf.bc]
    rw [h2]; simp
  rw [e]; exact h1
theorem crash_new {W w5 w6 : World} {B len c : Nat} {ad : Option Addr} {v6 : Value} {keep tear : Int} {l : List Sec} (hL : crashL D keep tear = l) (hlen : l.length = len) (h5 : w5.ownsRow B 81 64 (.slice ad len c) len (secCells l)) (h6 : w6.ownsRow w5.heap.size 81 64 v6 len (secCells l)) (b6 : Below w5.heap.size w5 w6) (b5 : Below B W w5) (hB : B ≤ W.heap.size := by exact Nat.le_refl _) :
    ∃ n' V', Ending.returned (.pointer (some ⟨w6.heap.size, 0, none⟩)) = .returned (.pointer (some ⟨n', 0, none⟩)) ∧ Dsk (w6.alloc (.cells #[v6, .slice ad len c, .slice none 0 0, .int .i64 0, .bool false] 78)) B n' V' (crashD D keep tear) ∧ Below B W (w6.alloc (.cells #[v6, .slice ad len c, .slice none 0 0, .int .i64 0, .bool false] 78)) := by
  subst hlen
  have hs5 := b5.size
  have hs6 := b6.size
  have h56 := own_stays h5 (w' := w6) (fun k hk => b6.block k (own_lt h5 k hk))
  refine ⟨_, ⟨v6, .slice ad l.length c, .slice none 0 0⟩, rfl, ?_, (b5.trans (b6.mono (by omega))).alloc (by omega) _⟩
  unfold crashD
  rw [hL]
  refine ⟨Box.new _ _ _, ?_, ?_, World.ownsRow_nil _ _ _ _, by omega, ?_⟩
  · exact own_base (own_stays h6 (fun k hk => Below.heap_alloc w6 _ k (own_lt h6 k hk))) (fun k hk => by have := own_ge h6 k hk; omega)
  · exact own_stays h56 (fun k hk => Below.heap_alloc w6 _ k (own_lt h56 k hk))
  · intro k hk he
    have h1 := own_ge h6 k hk
    have h2 := own_lt h5 k he
    omega
set_option maxHeartbeats 2000000 in
set_option maxRecDepth 100000 in
theorem crash_any (keep tear : Int) (h : Dsk w base n V D) (hb : base ≤ w.heap.size) (hg : Good D) (hwl : D.wait.length ≤ 1000000) :
    Calls Try.prog 29 #[.pointer (some ⟨n, 0, none⟩), .int .i64 keep, .int .i64 tear] w fun e w' => ∃ n' V', e = .returned (.pointer (some ⟨n', 0, none⟩)) ∧ Dsk w' w.heap.size n' V' (crashD D keep tear) ∧ Below w.heap.size w w' := by
  obtain ⟨M, hM⟩ : ∃ M : Int, (if keep < 0 then 0 else keep) = M := ⟨_, rfl⟩
  obtain ⟨K, hK, hKE, hKL⟩ : ∃ K : Nat, (if (D.wait.length : Int) < M then (D.wait.length : Int) else M) = (K : Int) ∧ K = keepN D keep ∧ K ≤ D.wait.length := by
    refine ⟨keepN D keep, ?_, rfl, ?_⟩
    · unfold keepN; rw [← hM]; split <;> split <;> omega
    · unfold keepN; omega
  obtain ⟨aw, cw, hVw, hcw⟩ := own_shape h.rw
  obtain ⟨af, cf, hVf, _⟩ := own_shape h.rf
  obtain ⟨nn, nf, nw⟩ := V
  simp only at hVw hVf
  subst hVw hVf
  have C1 := Lib.hid (clone_row af cf h.rf (by have := hg.same; have := hg.many; omega))
  have HD := Lib.hid h
  have HG := Lib.hid hg
  have HWL := Lib.hid hwl
  have HKE := Lib.hid hKE
  have c1 : w.cell? ⟨n, 1, none⟩ = some (.slice af D.firm.length cf) := h.box.cell 1
  have hn := h.box.lt
  clear h hg hwl hKE
  go_enter Try.func29, Try.ntmps29
  go_wp2_with fail
  refine C1.out.mono ?_
  rintro e w1 ⟨v1, rfl, own1, b1⟩
  obtain ⟨a1, cc1, rfl, _⟩ := own_shape own1
  have HB1 := Lib.hid b1
  have HO1 := Lib.hid own1
  have hd1 := HD.out.bel b1
  have c2 : w1.cell? ⟨n, 2, none⟩ = some (.slice aw D.wait.length cw) := hd1.box.cell 2
  have hn1 := hd1.box.lt
  have HK0 := Lib.hid hK
  clear hd1 own1 b1 C1 c1 hn
  go_wp2_with fail
  go_loopw [31] (fun i wr => ∃ k : Nat, k ≤ K ∧ i = .int .i64 k ∧ wr.ownsRow w.heap.size 81 64 (.slice a1 D.firm.length cc1) D.firm.length (secCells (laid D.firm (D.wait.take k))) ∧ Below w.heap.size w wr) (fun i _ => K - (intOf i).toNat)
  case atStart => exact ⟨0, Nat.zero_le _, rfl, HO1.out, HB1.out⟩
  case round =>
    obtain ⟨k, hk, rfl, hOr, hBr⟩ := hrel
    have HOR := Lib.hid hOr
    have HBR := Lib.hid hBr
    have hDr := HD.out.bel hBr
    have HDR := Lib.hid hDr
    clear c2 hn1
    have hn := hDr.box.lt
    have hwl := HWL.out
    by_cases hlt : k < K
    · obtain ⟨x, hx⟩ : ∃ x, D.wait[k]? = some x := ⟨_, List.getElem?_eq_getElem (by omega)⟩
      have hxl := HG.out.lies x (List.mem_of_getElem? hx)
      rw [← HG.out.same] at hxl
      have hx64 := HG.out.fullw x (List.mem_of_getElem? hx)
      have hrw := hDr.rw
      obtain ⟨g, rfl, hgb, hgl, hR⟩ := wait_range hrw HG.out.fullw hx rfl
      obtain ⟨gf, rfl, hfb, hfl, _⟩ := own_at hOr 0 (by omega)
      have HX64 := Lib.hid hx64
      have HLT := Lib.hid hlt
      have HXL := Lib.hid hxl
      have HLX := Lib.hid (laid_take D.firm D.wait k x hx)
      have HFU := Lib.hid (laid_full (l := D.firm) (ws := D.wait.take k) HG.out.fullf (HG.out.fullw.take k))
      have HRA := Lib.hid hR
      have HSW := Lib.hid (show (Try.prog.info? 83).map (·.size) = some (wc x).length by rw [wc_len, hx64]; exact isz68)
      have HSWA := Lib.hid (show (Try.prog.info? 83).map (·.size) = some (wc x).toArray.size by rw [List.size_toArray, wc_len, hx64]; exact isz68)
      have HSZ := Lib.hid (show (Try.prog.info? 81).map (·.size) = some (bc x.2).length by rw [bc_len, hx64]; exact isz63)
      have HSA := Lib.hid (show (Try.prog.info? 81).map (·.size) = some (bc x.2).toArray.size by rw [List.size_toArray, bc_len, hx64]; exact isz63)
      have HONW := Lib.hid (all_oneCell_toArray (wc_one x))
      have HONE := Lib.hid (all_oneCell_toArray (bc_one x.2))
      obtain ⟨zs, hz, hzs, hzn, hzz⟩ := zero68
      have HTH : Hid ((wr.alloc (.cells zs 83)).there wr.heap.size 0 (wc x).toArray.size) := by have := there_newW wr x hx64; rw [← hzz] at this; exact this
      have HNW : Hid ((wr.alloc (.cells zs 83)).setCells wr.heap.size 0 (wc x).toArray.toList = wr.alloc (.cells (wc x).toArray 83)) := by have := new_wholeW wr x hx64; rw [← hzz] at this; exact this
      have HX := Lib.hid (Box.new wr 83 (wc x).toArray)
      have HBA := Lib.hid (hBr.alloc hBr.size (.cells (wc x).toArray 83))
      have x0 := box_fst HX.out
      have HRX := Lib.hid (box_rangeW HX.out)
      have hki : (k : Int) < (K : Int) := by omega
      have hxi : (x.1 : Int) < (D.firm.length : Int) := by omega
      have hofo := own_stays hOr (w' := wr.alloc (.cells (wc x).toArray 83)) (fun b hb => Below.heap_alloc wr _ b (own_lt hOr b hb))
      have HFO := Lib.hid hofo
      have hwx : (wr.alloc (.cells (wc x).toArray 83)).heap.size = wr.heap.size + 1 := by simp
      have HTH2 : Hid ((wr.alloc (.cells (wc x).toArray 83)).there gf (x.1 * 64) (bc x.2).toArray.size) := by rw [List.size_toArray, bc_len, hx64]; exact now_there (l := laid D.firm (D.wait.take k)) hofo HFU.out (by rw [laid_len]; omega) (laid_len _ _) rfl
      clear hDr hBr hOr hR hrw hx64 hx hzz hofo
      go_wp2_with (first | (with_reducible refine wpList_load_mid rfl 83 (.tmp 33) rfl g (k * 65) rfl (wc x) _ HRA.out Try.underlying83 rfl HSW.out ?_) | (with_reducible refine wpList_store_mid rfl 83 (.tmp 9) (.tmp 34) rfl wr.heap.size 0 (wc x).toArray rfl rfl HTH.out HSWA.out HONW.out ?_; rw [HNW.out]) | (with_reducible refine wpList_load_mid rfl 81 (.tmp 38) rfl wr.heap.size 1 rfl (bc x.2) _ HRX.out Try.underlying81 rfl HSZ.out ?_) | (with_reducible refine wpList_store_mid rfl 81 (.tmp 40) (.tmp 39) rfl gf (x.1 * 64) (bc x.2).toArray rfl rfl HTH2.out HSA.out HONE.out ?_))
      go_roundw
      case rel =>
        have hge : w.heap.size ≤ gf := hfb
        refine ⟨k + 1, HLT.out, by go_num, ?_, ?_⟩
        · rw [HLX.out]
          exact own_setSec HFO.out HFU.out (laid_len _ _) x.1 x.2 (by rw [laid_len]; exact HXL.out) HX64.out
        · exact below_sets HBA.out hge _ _
      case measure => have := HLT.out; simp [intOf]; omega
    · obtain rfl : k = K := by omega
      have c2 : wr.cell? ⟨n, 2, none⟩ = some (.slice aw D.wait.length cw) := hDr.box.cell 2
      clear hDr hBr hOr
      have HKE2 := HKE
      have hlk : (laid D.firm (D.wait.take k)).length = D.firm.length := laid_len _ _
      have HFU := Lib.hid (laid_full (l := D.firm) (ws := D.wait.take k) HG.out.fullf (HG.out.fullw.take k))
      by_cases hkl : k < D.wait.length
      · obtain ⟨x, hx⟩ : ∃ x, D.wait[k]? = some x := ⟨_, List.getElem?_eq_getElem (by omega)⟩
        have hxl := HG.out.lies x (List.mem_of_getElem? hx)
        rw [← HG.out.same] at hxl
        have hx64 := HG.out.fullw x (List.mem_of_getElem? hx)
        have hrw := HDR.out.rw
        obtain ⟨g, rfl, hgb, hgl, hR⟩ := wait_range hrw HG.out.fullw hx rfl
        obtain ⟨gf, rfl, hfb, hfl, _⟩ := own_at HOR.out 0 (by omega)
        obtain ⟨s, hs⟩ : ∃ s, (laid D.firm (D.wait.take k))[x.1]? = some s := ⟨_, List.getElem?_eq_getElem (by omega)⟩
        have HSS := Lib.hid hs
        have HL : Hid (crashL D keep tear = (laid D.firm (D.wait.take k)).set x.1 (torn s x.2 (tearN tear))) := by
          have : crashL D keep tear = (laid D.firm (D.wait.take k)).set x.1 (torn s x.2 (tearN tear)) := by
            unfold crashL
            rw [← HKE.out, hx]
            simp only [List.getD_eq_getElem?_getD, hs, Option.getD_some]
          exact this
        obtain ⟨l, hl⟩ : ∃ l, l = (laid D.firm (D.wait.take k)).set x.1 (torn s x.2 (tearN tear)) := ⟨_, rfl⟩
        rw [← hl] at HL
        have HLL := Lib.hid hl
        have hll : l.length = D.firm.length := by rw [hl, List.length_set, hlk]
        have HLN := Lib.hid hll
        have HX64 := Lib.hid hx64
        have HXL := Lib.hid hxl
        have HRA := Lib.hid hR
        have HSW := Lib.hid (show (Try.prog.info? 83).map (·.size) = some (wc x).length by rw [wc_len, hx64]; exact isz68)
        have HSWA := Lib.hid (show (Try.prog.info? 83).map (·.size) = some (wc x).toArray.size by rw [List.size_toArray, wc_len, hx64]; exact isz68)
        have HONW := Lib.hid (all_oneCell_toArray (wc_one x))
        obtain ⟨zs, hz, hzs, hzn, hzz⟩ := zero68
        have HTH : Hid ((wr.alloc (.cells zs 83)).there wr.heap.size 0 (wc x).toArray.size) := by have := there_newW wr x hx64; rw [← hzz] at this; exact this
        have HNW : Hid ((wr.alloc (.cells zs 83)).setCells wr.heap.size 0 (wc x).toArray.toList = wr.alloc (.cells (wc x).toArray 83)) := by have := new_wholeW wr x hx64; rw [← hzz] at this; exact this
        have HX := Lib.hid (Box.new wr 83 (wc x).toArray)
        have HBA := Lib.hid (HBR.out.alloc HBR.out.size (.cells (wc x).toArray 83))
        obtain ⟨MT, hMT⟩ : ∃ MT : Int, (if tear < 0 then 0 else tear) = MT := ⟨_, rfl⟩
        obtain ⟨T, hT, hTE, hT64⟩ : ∃ T : Nat, (if 64 < MT then 64 else MT) = (T : Int) ∧ T = tearN tear ∧ T ≤ 64 := by
          refine ⟨tearN tear, ?_, rfl, ?_⟩
          · unfold tearN; rw [← hMT]; split <;> split <;> omega
          · unfold tearN; omega
        have HTE := Lib.hid hTE
        have HT6 := Lib.hid hT64
        have hxi : (x.1 : Int) < (D.firm.length : Int) := by omega
        have hki : (k : Int) < (D.wait.length : Int) := by omega
        have hofo := own_stays HOR.out (w' := wr.alloc (.cells (wc x).toArray 83)) (fun b hb => Below.heap_alloc wr _ b (own_lt HOR.out b hb))
        have HFO := Lib.hid hofo
        have HTH2 : Hid ((wr.alloc (.cells (wc x).toArray 83)).there gf (x.1 * 64) ((bc x.2).take T).length) := fun j hj => now_there (l := laid D.firm (D.wait.take k)) hofo HFU.out (by omega) (laid_len _ _) rfl j (by rw [List.length_take, bc_len] at hj; omega)
        have HCN := Lib.hid (show ((bc x.2).take T).length = Nat.min 64 T by rw [List.length_take, bc_len, hx64, Nat.min_eq_left hT64]; exact (Nat.min_eq_right hT64).symm)
        have HLT1 := Lib.hid (show ∀ u ∈ (bc x.2).take T, u.oneCell' = true from fun u hu => bc_one _ u (List.mem_of_mem_take hu))
        have hsl : ∀ w : World, (Instr.sliceAt 81 (.pointer (some ⟨gf, x.1 * 64, none⟩)) none (some (.int .i64 (T : Int))) none).run Try.prog w = .ok (.slice (some ⟨gf, x.1 * 64, none⟩) T 64) w := fun w => slice_arr gf (x.1 * 64) T hT64 w
        clear hR hrw hx64 hx hzz hofo hs hl hTE hll hlk
        go_wp2_with (first | (with_reducible refine wpList_load_mid rfl 83 (.tmp 54) rfl g (k * 65) rfl (wc x) _ HRA.out Try.underlying83 rfl HSW.out ?_) | (with_reducible refine wpList_store_mid rfl 83 (.tmp 10) (.tmp 55) rfl wr.heap.size 0 (wc x).toArray rfl rfl HTH.out HSWA.out HONW.out ?_; rw [HNW.out]))
        try simp only [put_none]
        generalize wr.alloc (.cells (wc x).toArray 83) = wa at HX HBA HFO HTH2 ⊢
        refine wp_region_phase (fun w' => Box w' wr.heap.size 83 (wc x).toArray) [true, true, true, true, true, true, true, true, true, true, false] 10 _ _ _ (by kernel_rfl) rfl rfl (by kernel_rfl) rfl rfl (fun _ _ _ _ _ h => h) (HX.out.drew) ?_
        intro S HS
        simp only [taken, leftOut]
        go_big_quiet_want; go_big_quiet_op; go_big_quiet_on
        go_big_quiet_want; apply quiet_value; (· (intro w' hw; go_simp; try rfl)); simp only [Act.put, List.setIfInBounds_toArray, List.set_cons_succ, List.set_cons_zero]; go_big_quiet_on
        go_big_quiet_want; apply quiet_value; (· (intro w' hw; have x0 := box_fst ((HS.out _).1 hw); go_simp; try rfl)); simp only [Act.put, List.setIfInBounds_toArray, List.set_cons_succ, List.set_cons_zero]; go_big_quiet_on
        go_big_quiet_want; apply quiet_value; (· (intro w' hw; go_simp; try rfl)); simp only [Act.put, List.setIfInBounds_toArray, List.set_cons_succ, List.set_cons_zero]; go_big_quiet_on
        go_big_quiet_want; go_big_quiet_op; go_big_quiet_on
        go_big_quiet_want; apply quiet_value; (· (intro w' hw; go_simp; try rfl)); simp only [Act.put, List.setIfInBounds_toArray, List.set_cons_succ, List.set_cons_zero]; go_big_quiet_on
        go_big_quiet_want; apply quiet_value; (· (intro w' hw; go_simp; try rfl)); simp only [Act.put, List.setIfInBounds_toArray, List.set_cons_succ, List.set_cons_zero]; go_big_quiet_on
        go_big_quiet_want; apply quiet_value; (· (intro w' hw; go_simp; try rfl)); simp only [Act.put, List.setIfInBounds_toArray, List.set_cons_succ, List.set_cons_zero]; go_big_quiet_on
        go_big_quiet_want; apply quiet_value; (· (intro w' hw; go_simp; try rfl)); simp only [Act.put, List.setIfInBounds_toArray, List.set_cons_succ, List.set_cons_zero]; go_big_quiet_on
        go_big_quiet_want; apply quiet_value; (· (intro w' hw; go_simp; try rfl)); simp only [Act.put, List.setIfInBounds_toArray, List.set_cons_succ, List.set_cons_zero]; go_big_quiet_on
        refine wpQuiet_nil ?_
        refine wpTail_last ?_
        have HSRC : Hid (∀ j v, ((bc x.2).take T)[j]? = some v → wa.drew.cell? ((⟨wr.heap.size, 1, none⟩ : Addr).add j) = some v) := fun j v hj => by
          rw [Addr.add_mid]
          have := (List.getElem?_eq_some_iff.1 hj).1
          rw [List.length_take] at this
          rw [List.getElem?_take_of_lt (by omega)] at hj
          exact box_rangeW HX.out j v hj
        refine wpList_copy_cells rfl (.tmp 63) (.tmp 65) 32 32 rfl 5 Try.underlying32 isz5 gf (x.1 * 64) T 64 rfl ⟨wr.heap.size, 1, none⟩ 64 64 ((bc x.2).take T) rfl HCN.out HSRC.out HTH2.out HLT1.out ?_
        have HO5 : Hid ((wa.drew.setCells gf (x.1 * 64) ((bc x.2).take T)).ownsRow w.heap.size 81 64 (.slice (some ⟨gf, 0, none⟩) D.firm.length cc1) D.firm.length (secCells l)) := by
          have := own_torn (w := wa.drew) HFO.out HFU.out (laid_len _ _) x.1 s x.2 HSS.out HX64.out T HT6.out
          rw [HTE.out, ← HLL.out] at this
          rw [HTE.out]; exact this
        have HB5 := Lib.hid (below_sets HBA.out.drew hfb (x.1 * 64) ((bc x.2).take T))
        simp only [Act.put, List.setIfInBounds_toArray, List.set_cons_succ, List.set_cons_zero]
        generalize wa.drew.setCells gf (x.1 * 64) ((bc x.2).take T) = w5 at HO5 HB5 ⊢
        have hO5 := HO5.out
        rw [← HLN.out] at hO5
        have C6 := Lib.hid (clone_row (some ⟨gf, 0, none⟩) cc1 hO5 (by rw [HLN.out]; have := HG.out.same; have := HG.out.many; omega))
        rw [HLN.out] at C6
        go_wp2_with fail
        refine C6.out.mono ?_
        rintro e w6 ⟨v6, rfl, own6, b6⟩
        obtain ⟨a6, c6, rfl, _⟩ := own_shape own6
        have HO6 := Lib.hid own6
        have HB6 := Lib.hid b6
        clear own6 b6 C6 hO5
        go_wp2
        go_ret
        obtain ⟨n', V', q1, q2, q3⟩ := crash_new HL.out HLN.out HO5.out HO6.out HB6.out HB5.out
        first | exact ⟨n', V', q1, q2, q3⟩ | exact ⟨n', q1, ⟨V', q2⟩, q3⟩
      · have HL : Hid (crashL D keep tear = laid D.firm (D.wait.take k)) := by
          have : crashL D keep tear = laid D.firm (D.wait.take k) := by
            unfold crashL
            rw [← HKE.out, List.getElem?_eq_none (by omega)]
          exact this
        obtain ⟨l, hl⟩ : ∃ l, l = laid D.firm (D.wait.take k) := ⟨_, rfl⟩
        rw [← hl] at HL HOR hlk
        have HLN := Lib.hid hlk
        have hO5 := HOR.out
        rw [← HLN.out] at hO5
        have C6 := Lib.hid (clone_row a1 cc1 hO5 (by rw [HLN.out]; have := HG.out.same; have := HG.out.many; omega))
        rw [HLN.out] at C6
        have hkk : k = D.wait.length := by omega
        clear hl hO5 hlk HDR HD
        go_wp2_with fail
        refine C6.out.mono ?_
        rintro e w6 ⟨v6, rfl, own6, b6⟩
        obtain ⟨a6, c6, rfl, _⟩ := own_shape own6
        have HO6 := Lib.hid own6
        have HB6 := Lib.hid b6
        clear own6 b6 C6
        go_wp2
        go_ret
        obtain ⟨n', V', q1, q2, q3⟩ := crash_new HL.out HLN.out HOR.out HO6.out HB6.out HBR.out
        first | exact ⟨n', V', q1, q2, q3⟩ | exact ⟨n', q1, ⟨V', q2⟩, q3⟩
end Go.Proofs.Ytdiboicllolcnaa
