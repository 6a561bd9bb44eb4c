/- zname: the document's Valid, Depth, Base, Parent, Under. Conditions: the texts have at most 4194304 bytes. -/
import Derived.Test.YtegpoiepeaofgaaDoorZi
namespace Go.Proofs.YtegpoiepeaofgaaDoor
open Go Go.RowKit Zn
set_option linter.unusedVariables false
set_option linter.unusedSimpArgs false
variable {w w' : World}

theorem valid_none {l : Nm} (h : validZ l = false) : namesO l = none := by
  unfold validZ at h; cases hn : namesO l with
  | none => rfl
  | some L => rw [hn] at h; cases h
theorem valid_some {l : Nm} (h : validZ l = true) : ∃ L, namesO l = some L := by
  unfold validZ at h; exact Option.isSome_iff_exists.1 h
theorem rvalid_any (s : ByteArray) (w : World) (hs : s.size ≤ 4194304) : Calls Tryd.prog 16 #[.string s] w fun e w' => e = .returned (.bool (validZ s.data.toList)) ∧ Below w.heap.size w w' := by
  have C1 := Lib.hid (rnames_any s w hs)
  go_enter Tryd.func16, Tryd.ntmps16
  go_wp2_with fail
  refine C1.out.mono ?_
  rintro e w1 ⟨⟨ad, n, c, rfl, _⟩, b1⟩
  have B1 := Lib.hid b1
  clear b1
  go_wp2_with fail
  go_ret
  exact ⟨rfl, B1.out⟩
theorem rdepth_any (s : ByteArray) (w : World) (hs : s.size ≤ 4194304) : Calls Tryd.prog 18 #[.string s] w fun e w' => e = .returned (.int .i64 (depthZ s.data.toList)) ∧ Below w.heap.size w w' := by
  cases hv : validZ s.data.toList
  · have HE := Lib.hid (show depthZ s.data.toList = -1 by unfold depthZ; rw [valid_none hv])
    have C1 := Lib.hid (rnames_no s w hs hv)
    clear hv
    go_enter Tryd.func18, Tryd.ntmps18
    go_wp2_with fail
    refine C1.out.mono ?_
    rintro e w1 ⟨ad, n, c, rfl, b1⟩
    have B1 := Lib.hid b1
    clear b1
    go_wp2_with fail
    go_ret
    exact ⟨congrArg (fun n => Ending.returned (Value.int .i64 n)) HE.out.symm, B1.out⟩
  · obtain ⟨L, hL⟩ := valid_some hv
    have HE := Lib.hid (show depthZ s.data.toList = L.length by unfold depthZ; rw [hL])
    have C1 := Lib.hid (rnames_yes s w hs L hL)
    clear hv hL
    go_enter Tryd.func18, Tryd.ntmps18
    go_wp2_with fail
    refine C1.out.mono ?_
    rintro e w1 ⟨ad, c, rfl, hc, hS, h0, b1⟩
    have B1 := Lib.hid b1
    clear b1 hS h0
    go_wp2_with fail
    go_ret
    exact ⟨congrArg (fun n => Ending.returned (Value.int .i64 n)) HE.out.symm, B1.out⟩
theorem rbase_any (s : ByteArray) (w : World) (hs : s.size ≤ 4194304) : Calls Tryd.prog 20 #[.string s] w fun e w' => e = .returned (.string ⟨(baseZ s.data.toList).toArray⟩) ∧ Below w.heap.size w w' := by
  cases hv : validZ s.data.toList
  · have HE := Lib.hid (show baseZ s.data.toList = [] by unfold baseZ lsOf; rw [valid_none hv]; rfl)
    have C1 := Lib.hid (rnames_no s w hs hv)
    clear hv
    go_enter Tryd.func20, Tryd.ntmps20
    go_wp2_with fail
    refine C1.out.mono ?_
    rintro e w1 ⟨ad, n, c, rfl, b1⟩
    have B1 := Lib.hid b1
    clear b1
    go_wp2_with fail
    go_ret
    exact ⟨congrArg (fun l : Nm => Ending.returned (Value.string ⟨l.toArray⟩)) HE.out.symm, B1.out⟩
  · obtain ⟨L, hL⟩ := valid_some hv
    have HE := Lib.hid (show baseZ s.data.toList = L.getLastD [] by unfold baseZ; rw [ls_of hL])
    have hll : L.length ≤ 8 := ((names_iff _ _).1 hL).2.1
    have C1 := rnames_yes s w hs L hL
    clear hv hL
    by_cases h0 : L = []
    · subst h0
      have C1 := Lib.hid C1
      go_enter Tryd.func20, Tryd.ntmps20
      go_wp2_with fail
      refine C1.out.mono ?_
      rintro e w1 ⟨ad, c, rfl, hc, hS, h0, b1⟩
      have B1 := Lib.hid b1
      clear b1 hS h0
      go_wp2_with fail
      go_ret
      exact ⟨congrArg (fun l : Nm => Ending.returned (Value.string ⟨l.toArray⟩)) HE.out.symm, B1.out⟩
    · have C1 := Lib.hid C1
      have hpos : 0 < L.length := List.length_pos_iff.2 h0
      obtain ⟨x, hx⟩ : ∃ x, L[L.length - 1]? = some x := ⟨_, List.getElem?_eq_getElem (by omega)⟩
      have HE2 := Lib.hid (show baseZ s.data.toList = x by rw [HE.out, List.getLastD_eq_getLast?, List.getLast?_eq_getElem?, hx]; rfl)
      have hne : ((L.length : Int) == 0) = false := by simp; exact h0
      have hw1 : (0 : Int) ≤ (L.length : Int) - 1 := by omega
      have hpi : (1 : Int) ≤ (L.length : Int) := by omega
      have hnt : ((L.length : Int) - 1).toNat = L.length - 1 := by omega
      have HX := Lib.hid hx
      clear HE h0 hx
      go_enter Tryd.func20, Tryd.ntmps20
      go_wp2_with fail
      refine C1.out.mono ?_
      rintro e w1 ⟨ad, c, rfl, hc, hS, h0, b1⟩
      obtain ⟨g, off, rfl, hg, d0⟩ := hS.get _ x HX.out
      have B1 := Lib.hid b1
      clear hS b1 h0
      go_wp2_with fail
      go_ret
      exact ⟨congrArg (fun l : Nm => Ending.returned (Value.string ⟨l.toArray⟩)) HE2.out.symm, B1.out⟩
set_option maxHeartbeats 1000000 in
theorem rparent_any (s : ByteArray) (w : World) (hs : s.size ≤ 4194304) : Calls Tryd.prog 14 #[.string s] w fun e w' => e = .returned (.tuple #[.string ⟨(parentZ s.data.toList).toArray⟩, .bool (isParent s.data.toList)]) ∧ Below w.heap.size w w' := by
  cases hv : validZ s.data.toList
  · have hl : lsOf s.data.toList = [] := by unfold lsOf; rw [valid_none hv]; rfl
    have HE := Lib.hid (show parentZ s.data.toList = [] by unfold parentZ; rw [hl]; rfl)
    have HI := Lib.hid (show isParent s.data.toList = false by unfold isParent; rw [hl]; rfl)
    have C1 := Lib.hid (rnames_no s w hs hv)
    clear hv hl
    go_enter Tryd.func14, Tryd.ntmps14
    go_wp2_with fail
    refine C1.out.mono ?_
    rintro e w1 ⟨ad, n, c, rfl, b1⟩
    have B1 := Lib.hid b1
    clear b1
    go_wp2_with fail
    exact ret_two rfl rfl (x := .string ⟨#[]⟩) (y := .bool false) rfl rfl ⟨by rw [HE.out, HI.out], B1.out⟩
  · obtain ⟨L, hL⟩ := valid_some hv
    have HE := Lib.hid (show parentZ s.data.toList = if L = [] then [] else pathOf L.dropLast by unfold parentZ; rw [ls_of hL])
    have HI := Lib.hid (show isParent s.data.toList = !L.isEmpty by unfold isParent; rw [ls_of hL])
    obtain ⟨_, hll, hna⟩ := (names_iff _ _).1 hL
    have C1 := rnames_yes s w hs L hL
    clear hv hL
    by_cases h0 : L = []
    · subst h0
      have C1 := Lib.hid C1
      go_enter Tryd.func14, Tryd.ntmps14
      go_wp2_with fail
      refine C1.out.mono ?_
      rintro e w1 ⟨ad, c, rfl, hc, hS, h0, b1⟩
      have B1 := Lib.hid b1
      clear b1 hS h0
      go_wp2_with fail
      exact ret_two rfl rfl (x := .string ⟨#[]⟩) (y := .bool false) rfl rfl ⟨by rw [HE.out, HI.out]; rfl, B1.out⟩
    · have C1 := Lib.hid C1
      have hpos : 0 < L.length := List.length_pos_iff.2 h0
      obtain ⟨x, hx⟩ : ∃ x, L[0]? = some x := ⟨_, List.getElem?_eq_getElem hpos⟩
      have HE2 := Lib.hid (show parentZ s.data.toList = pathOf L.dropLast by rw [HE.out, if_neg h0])
      have HI2 := Lib.hid (show isParent s.data.toList = true by rw [HI.out]; cases L with | nil => exact absurd rfl h0 | cons _ _ => rfl)
      have hne : ((L.length : Int) == 0) = false := by simp; exact h0
      have hw1 : (0 : Int) ≤ (L.length : Int) - 1 := by omega
      have hpi : (1 : Int) ≤ (L.length : Int) := by omega
      have hnt : ((L.length : Int) - 1).toNat = L.length - 1 := by omega
      have HX := Lib.hid hx
      have HNA := Lib.hid hna
      clear HE HI h0 hx hna
      go_enter Tryd.func14, Tryd.ntmps14
      go_wp2_with fail
      refine C1.out.mono ?_
      rintro e w1 ⟨ad, c, rfl, hc, hS, h0, b1⟩
      obtain ⟨g, off, rfl, hg, d0⟩ := hS.get _ x HX.out
      have C2 := rpath_any (some ⟨g, off, none⟩) c L.dropLast w1 (by rw [List.dropLast_eq_take]; exact hS.take _) (by rw [List.length_dropLast]; omega) (List.all_eq_true.2 fun y hy => List.all_eq_true.1 HNA.out y (List.dropLast_subset L hy))
      rw [List.length_dropLast] at C2
      obtain ⟨P, hP⟩ : ∃ P, P = pathOf L.dropLast := ⟨_, rfl⟩
      rw [← hP] at C2 HE2
      have C2 := Lib.hid C2
      have B1 := Lib.hid b1
      clear hS b1 h0 d0 hP
      go_wp2_with fail
      refine C2.out.mono ?_
      rintro e w2 ⟨rfl, rfl⟩
      go_wp2_with fail
      exact ret_two rfl rfl (x := .string ⟨P.toArray⟩) (y := .bool true) rfl rfl ⟨by rw [HE2.out, HI2.out], B1.out⟩
end Go.Proofs.YtegpoiepeaofgaaDoor
