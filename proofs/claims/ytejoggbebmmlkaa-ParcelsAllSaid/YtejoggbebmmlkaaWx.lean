/- Whose messages these are: For of both nets. Conditions: their rows are the call's own. -/
import Derived.Test.YtejoggbebmmlkaaWw
namespace Go.Proofs.Ytejoggbebmmlkaa
open Go.RowKit
set_option linter.unusedVariables false
set_option linter.unusedSimpArgs false
variable {w w' : World} {base n m : Nat} {l a v : Value} {ps : List Pk} {A M : List (Int × Int)}

def idx (x : Int) (ps : List Pk) (t : Nat) : List Nat := (List.range t).filter fun k => decide ((ps[k]?).map (·.2.1) = some x)
def iv (L : List Nat) : List Value := L.map fun (k : Nat) => Value.int .i64 (k : Int)
theorem idx_len (x : Int) (ps : List Pk) (t : Nat) : (idx x ps t).length ≤ t := Nat.le_trans (List.length_filter_le _ _) (by simp)
theorem idx_lt (x : Int) (ps : List Pk) (t : Nat) : ∀ k ∈ idx x ps t, k < t := fun k hk => List.mem_range.1 (List.mem_filter.1 hk).1
theorem idx_no (x : Int) (ps : List Pk) (t : Nat) (p : Pk) (h : ps[t]? = some p) (hx : (p.2.1 == x) = false) : idx x ps (t + 1) = idx x ps t := by
  have h1 : p.2.1 ≠ x := by simpa using hx
  simp [idx, List.range_succ, h, h1]
theorem idx_yes (x : Int) (ps : List Pk) (t : Nat) (p : Pk) (h : ps[t]? = some p) (hx : (p.2.1 == x) = true) : idx x ps (t + 1) = idx x ps t ++ [t] := by
  have h1 : p.2.1 = x := by simpa using hx
  simp [idx, List.range_succ, h, h1]
theorem iv_snoc (L : List Nat) (t : Nat) : iv (L ++ [t]) = iv L ++ [.int .i64 (t : Int)] := by simp [iv]
theorem row3 : (Try.prog.info? 3).map (fun i => (i.zero, i.size, i.bytes)) = some (some (.int .i64 0), 1, 8) := by kernel_rfl
theorem src1 (w : World) (t : Nat) : Src (w.alloc (.cells #[.int .i64 (t : Int)] 3)) (some ⟨w.heap.size, 0, none⟩) 1 1 [.int .i64 (t : Int)] := by
  refine ⟨rfl, by simp [Value.oneCell'], .inr ⟨_, rfl, fun j u hj => ?_⟩⟩
  have hb := (Box.new w 3 #[.int .i64 (t : Int)]).cell j
  rw [Addr.add_lit, Nat.zero_add, hb]
  simpa using hj

set_option maxHeartbeats 1000000 in
theorem rfor_any (x : Int) (h : RNet w base l a ps A) (hl : ps.length ≤ 2000) :
    Calls Try.prog 31 #[rv l a, .int .i64 x] w fun e w' => ∃ vv, e = .returned vv ∧ w'.ownsRow w.heap.size 3 1 vv (idx x ps ps.length).length (iv (idx x ps ps.length)) ∧ Below w.heap.size w w' := by
  obtain ⟨ad, c, rfl, _⟩ := own_shape h.row
  obtain ⟨aa, ca, rfl, _⟩ := own_shape h.prs
  have HR := Lib.hid h
  have B0 := Lib.hid ((Below.refl w.heap.size w).alloc (Nat.le_refl _) (.cells #[.slice ad ps.length c, .slice aa A.length ca] 45))
  have HX := Lib.hid (Box.new w 45 #[.slice ad ps.length c, .slice aa A.length ca])
  unfold rv
  clear h
  go_enter Try.func31, Try.ntmps31
  go_wp2
  generalize w.alloc (.cells #[.slice ad ps.length c, .slice aa A.length ca] 45) = w1 at HX B0 ⊢
  have hsz1 := HX.out.lt
  go_loopw [5, 6] (fun lv i wr => ∃ t : Nat, t ≤ ps.length ∧ i = .int .i64 t ∧ wr.ownsRow w1.heap.size 3 1 lv (idx x ps t).length (iv (idx x ps t)) ∧ Below w1.heap.size w1 wr) (fun _ i _ => ps.length - (intOf i).toNat)
  case atStart => exact ⟨0, Nat.zero_le _, rfl, World.ownsRow_nil _ _ _ _, by first | exact Below.refl _ _ | (subst hw1; exact Below.refl _ _)⟩
  case round =>
    obtain ⟨t, ht, rfl, hO, hbel⟩ := hrel
    obtain ⟨kept, hkept⟩ : ∃ kept, kept = idx x ps t := ⟨_, rfl⟩
    rw [← hkept] at hO
    have hkl : kept.length ≤ 2000 := by rw [hkept]; exact Nat.le_trans (idx_len _ _ _) (by omega)
    have HKE := Lib.hid hkept
    have HO := Lib.hid hO
    have HBL := Lib.hid hbel
    have HXr := Lib.hid (HX.out.below hbel HX.out.lt)
    have x0 : wr.cell? ⟨w.heap.size, 0, none⟩ = some (.slice ad ps.length c) := HXr.out.cell 0
    obtain ⟨lad, lc, rfl, _⟩ := own_shape HO.out
    clear hO hbel hkept
    by_cases hlt : t < ps.length
    · obtain ⟨p, hp⟩ : ∃ p, ps[t]? = some p := ⟨_, List.getElem?_eq_getElem hlt⟩
      have HN0 := Lib.hid (idx_no x ps t p hp)
      have HN1 := Lib.hid (idx_yes x ps t p hp)
      obtain ⟨g, cap, he, hg, d0, d1, d2⟩ := own_cells (HR.out.below (B0.out.trans (HBL.out.mono B0.out.size)) (Nat.le_refl _)).row t p hp
      obtain ⟨rfl, rfl⟩ : ad = some ⟨g, 0, none⟩ ∧ c = cap := by simpa using he
      clear hp he
      cases h1 : (p.2.1 == x)
      · have HE := Lib.hid (HN0.out h1)
        clear HN0 HN1
        go_wp2
        go_roundw
        case rel => exact ⟨t + 1, by omega, by go_num, by rw [HE.out, ← HKE.out]; exact HO.out, HBL.out⟩
        case measure => simp [intOf]; omega
      · have HE := Lib.hid (HN1.out h1)
        have HOA := Lib.hid (HO.out.alloc (.cells #[.int .i64 (t : Int)] 3))
        have hsx := src1 wr t
        try simp only [World.size_alloc] at hsx
        have HSX3 := Lib.hid hsx
        obtain ⟨i0, hi, hz0, hz1', hz2⟩ := info_parts row3
        have HI := Lib.hid hi
        have HZZ := Lib.hid hz0
        have HSZ := Lib.hid (show w1.heap.size ≤ (wr.alloc (.cells #[.int .i64 (t : Int)] 3)).heap.size by have := HBL.out.size; simp; omega)
        clear HN0 HN1 hi hz0 hsx
        go_wp2_with (at_builtin; refine wpList_append_at rfl (.tmp 22) (.tmp 24) 63 rfl w1.heap.size 3 i0 _ 1 8 Try.underlying63 HI.out HZZ.out hz1' hz2 rfl (by decide) _ _ _ rfl HOA.out _ _ _ _ rfl HSX3.out (by unfold maxLen; omega) (by omega) HSZ.out ?_; intro v6 w6 own6 g6 at6; obtain ⟨ad6, c6, rfl, hc6⟩ := own_shape own6)
        go_roundw
        case rel =>
          refine ⟨t + 1, by omega, by go_num, ?_, (HBL.out.alloc HBL.out.size _).grown g6 HSZ.out (own_ge HO.out)⟩
          rw [HE.out, ← HKE.out, iv_snoc, List.length_append]
          exact own6
        case measure => simp [intOf]; omega
    · have hfin : kept = idx x ps ps.length := by have := HKE.out; rwa [show t = ps.length by omega] at this
      have HF := Lib.hid hfin
      clear hfin
      go_wp2
      go_ret
      exact ⟨_, rfl, by rw [← HF.out]; exact own_base HO.out (fun k hk => by have := own_ge HO.out k hk; omega), B0.out.trans (HBL.out.mono B0.out.size)⟩

set_option maxHeartbeats 1000000 in
theorem for_any (x : Int) (h : Net w base n m v ps M) (hl : ps.length ≤ 2000) :
    Calls Try.prog 30 #[.pointer (some ⟨n, 0, none⟩), .int .i64 x] w fun e w' => ∃ vv, e = .returned vv ∧ w'.ownsRow w.heap.size 3 1 vv (idx x ps ps.length).length (iv (idx x ps ps.length)) ∧ Below w.heap.size w w' := by
  obtain ⟨ad, c, rfl, _⟩ := own_shape h.row
  have HR := Lib.hid h
  have c0 : w.cell? ⟨n, 0, none⟩ = some (.slice ad ps.length c) := h.box.cell 0
  have hn := h.box.lt
  clear h
  go_enter Try.func30, Try.ntmps30
  go_wp2
  obtain ⟨w1, hw1⟩ : ∃ w1 : World, w1 = w := ⟨_, rfl⟩
  have hsz1 : w1.heap.size = w.heap.size := by rw [hw1]
  have B0 := Lib.hid (show Below w.heap.size w w1 by rw [hw1]; exact Below.refl _ _)
  go_loopw [5, 13] (fun lv i wr => ∃ t : Nat, t ≤ ps.length ∧ i = .int .i64 t ∧ wr.ownsRow w1.heap.size 3 1 lv (idx x ps t).length (iv (idx x ps t)) ∧ Below w1.heap.size w1 wr) (fun _ i _ => ps.length - (intOf i).toNat)
  case atStart => exact ⟨0, Nat.zero_le _, rfl, World.ownsRow_nil _ _ _ _, by first | exact Below.refl _ _ | (subst hw1; exact Below.refl _ _)⟩
  case round =>
    obtain ⟨t, ht, rfl, hO, hbel⟩ := hrel
    obtain ⟨kept, hkept⟩ : ∃ kept, kept = idx x ps t := ⟨_, rfl⟩
    rw [← hkept] at hO
    have hkl : kept.length ≤ 2000 := by rw [hkept]; exact Nat.le_trans (idx_len _ _ _) (by omega)
    have HKE := Lib.hid hkept
    have HO := Lib.hid hO
    have HBL := Lib.hid hbel
    have hwsz := hbel.size
    obtain ⟨lad, lc, rfl, _⟩ := own_shape HO.out
    clear hO hbel hkept
    by_cases hlt : t < ps.length
    · obtain ⟨p, hp⟩ : ∃ p, ps[t]? = some p := ⟨_, List.getElem?_eq_getElem hlt⟩
      have HN0 := Lib.hid (idx_no x ps t p hp)
      have HN1 := Lib.hid (idx_yes x ps t p hp)
      obtain ⟨g, cap, he, hg, d0, d1, d2⟩ := own_cells (HR.out.below (B0.out.trans (HBL.out.mono B0.out.size)) (Nat.le_refl _)).row t p hp
      obtain ⟨rfl, rfl⟩ : ad = some ⟨g, 0, none⟩ ∧ c = cap := by simpa using he
      clear hp he
      cases h1 : (p.2.1 == x)
      · have HE := Lib.hid (HN0.out h1)
        clear HN0 HN1
        go_wp2
        go_roundw
        case rel => exact ⟨t + 1, by omega, by go_num, by rw [HE.out, ← HKE.out]; exact HO.out.alloc _, HBL.out.alloc HBL.out.size _⟩
        case measure => simp [intOf]; omega
      · have HE := Lib.hid (HN1.out h1)
        have HOA := Lib.hid ((HO.out.alloc (.cells #[.int .i64 p.1, .int .i64 p.2.1, .string p.2.2] 27)).alloc (.cells #[.int .i64 (t : Int)] 3))
        have hsx := src1 (wr.alloc (.cells #[.int .i64 p.1, .int .i64 p.2.1, .string p.2.2] 27)) t
        try simp only [World.size_alloc] at hsx
        have HSX3 := Lib.hid hsx
        obtain ⟨i0, hi, hz0, hz1', hz2⟩ := info_parts row3
        have HI := Lib.hid hi
        have HZZ := Lib.hid hz0
        have HSZ := Lib.hid (show w1.heap.size ≤ ((wr.alloc (.cells #[.int .i64 p.1, .int .i64 p.2.1, .string p.2.2] 27)).alloc (.cells #[.int .i64 (t : Int)] 3)).heap.size by have := HBL.out.size; simp; omega)
        clear HN0 HN1 hi hz0 hsx
        go_wp2_with (at_builtin; refine wpList_append_at rfl (.tmp 22) (.tmp 24) 63 rfl w1.heap.size 3 i0 _ 1 8 Try.underlying63 HI.out HZZ.out hz1' hz2 rfl (by decide) _ _ _ rfl HOA.out _ _ _ _ rfl HSX3.out (by unfold maxLen; omega) (by omega) HSZ.out ?_; intro v6 w6 own6 g6 at6; obtain ⟨ad6, c6, rfl, hc6⟩ := own_shape own6)
        go_roundw
        case rel =>
          refine ⟨t + 1, by omega, by go_num, ?_, ((HBL.out.alloc HBL.out.size _).alloc (by have := HBL.out.size; simp; omega) _).grown g6 HSZ.out (own_ge HO.out)⟩
          rw [HE.out, ← HKE.out, iv_snoc, List.length_append]
          exact own6
        case measure => simp [intOf]; omega
    · have hfin : kept = idx x ps ps.length := by have := HKE.out; rwa [show t = ps.length by omega] at this
      have HF := Lib.hid hfin
      clear hfin
      go_wp2
      go_ret
      exact ⟨_, rfl, by rw [← HF.out]; exact own_base HO.out (fun k hk => by have := own_ge HO.out k hk; omega), B0.out.trans (HBL.out.mono B0.out.size)⟩
end Go.Proofs.Ytejoggbebmmlkaa
