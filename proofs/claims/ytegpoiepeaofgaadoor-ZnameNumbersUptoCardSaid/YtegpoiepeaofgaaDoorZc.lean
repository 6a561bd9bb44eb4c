/- zname: Valid, Depth, Base, Parent. Conditions: the path has at most 4194304 bytes; the library's variable holds a number. -/
import Derived.Test.YtegpoiepeaofgaaDoorZb
namespace Go.Proofs.YtegpoiepeaofgaaDoor
open Go Go.RowKit Zn
set_option linter.unusedVariables false
set_option linter.unusedSimpArgs false
variable {w w' : World}

theorem ls_len (l : Nm) : (lsOf l).length ≤ 8 := by
  unfold lsOf
  cases h : namesO l with
  | none => simp
  | some L => exact ((names_iff l L).1 h).2.1
theorem ls_names (l : Nm) : (lsOf l).all nameB = true := by
  unfold lsOf
  cases h : namesO l with
  | none => rfl
  | some L => exact ((names_iff l L).1 h).2.2
theorem valid_any (s : ByteArray) (w : World) (hs : s.size ≤ 4194304) (hm : Mx w) : Calls Tryd.prog 15 #[.string s] w fun e w' => e = .returned (.bool (validZ s.data.toList)) ∧ Below w.heap.size w w' := by
  have C1 := Lib.hid (names_any s w hs hm)
  clear hm
  go_enter Tryd.func15, Tryd.ntmps15
  go_wp2_with fail
  refine C1.out.mono ?_
  rintro e w1 ⟨⟨ad, c, rfl, hc, hS⟩, b1⟩
  have B1 := Lib.hid b1
  clear hS b1
  go_wp2_with fail
  go_ret
  exact ⟨rfl, B1.out⟩
theorem depth_any (s : ByteArray) (w : World) (hs : s.size ≤ 4194304) (hm : Mx w) : Calls Tryd.prog 17 #[.string s] w fun e w' => e = .returned (.int .i64 (depthZ s.data.toList)) ∧ Below w.heap.size w w' := by
  have C1 := names_any s w hs hm
  cases h : namesO s.data.toList with
  | none =>
    have HE := Lib.hid (show depthZ s.data.toList = -1 by unfold depthZ; rw [h])
    have h2 : validZ s.data.toList = false := by unfold validZ; rw [h]; rfl
    unfold Named at C1
    rw [h2] at C1
    have C1 := Lib.hid C1
    clear hm h h2
    go_enter Tryd.func17, Tryd.ntmps17
    go_wp2_with fail
    refine C1.out.mono ?_
    rintro e w1 ⟨⟨ad, c, rfl, hc, hS⟩, b1⟩
    have B1 := Lib.hid b1
    clear hS b1
    go_wp2_with fail
    go_ret
    exact ⟨congrArg (fun n => Ending.returned (Value.int .i64 n)) HE.out.symm, B1.out⟩
  | some L =>
    have HE := Lib.hid (show depthZ s.data.toList = (lsOf s.data.toList).length by unfold depthZ lsOf; rw [h]; rfl)
    have h2 : validZ s.data.toList = true := by unfold validZ; rw [h]; rfl
    unfold Named at C1
    rw [h2] at C1
    have C1 := Lib.hid C1
    clear hm h h2
    go_enter Tryd.func17, Tryd.ntmps17
    go_wp2_with fail
    refine C1.out.mono ?_
    rintro e w1 ⟨⟨ad, c, rfl, hc, hS⟩, b1⟩
    have B1 := Lib.hid b1
    clear hS b1
    go_wp2_with fail
    go_ret
    exact ⟨congrArg (fun n => Ending.returned (Value.int .i64 n)) HE.out.symm, B1.out⟩
theorem base_any (s : ByteArray) (w : World) (hs : s.size ≤ 4194304) (hm : Mx w) : Calls Tryd.prog 19 #[.string s] w fun e w' => e = .returned (.string ⟨(baseZ s.data.toList).toArray⟩) ∧ Below w.heap.size w w' := by
  have C1 := names_any s w hs hm
  unfold Named at C1
  have hll := ls_len s.data.toList
  have HE := Lib.hid (show baseZ s.data.toList = (lsOf s.data.toList).getLastD [] from rfl)
  obtain ⟨L, hL⟩ : ∃ L, L = lsOf s.data.toList := ⟨_, rfl⟩
  rw [← hL] at C1 hll HE
  have C1 := Lib.hid C1
  clear hm hL
  by_cases h0 : L = []
  · have HE2 := Lib.hid (show baseZ s.data.toList = [] by rw [HE.out, h0]; rfl)
    have hl0 : L.length = 0 := by rw [h0]; rfl
    rw [hl0] at C1
    clear HE hll h0 hl0
    go_enter Tryd.func19, Tryd.ntmps19
    go_wp2_with fail
    refine C1.out.mono ?_
    rintro e w1 ⟨⟨ad, c, rfl, hc, hS⟩, b1⟩
    have B1 := Lib.hid b1
    clear hS b1
    go_wp2_with fail
    go_ret
    exact ⟨congrArg (fun l : Nm => Ending.returned (Value.string ⟨l.toArray⟩)) HE2.out.symm, B1.out⟩
  · have hpos : 0 < L.length := List.length_pos_iff.2 h0
    obtain ⟨x, hx⟩ : ∃ x, L[L.length - 1]? = some x := ⟨_, List.getElem?_eq_getElem (by omega)⟩
    have HE2 := Lib.hid (show baseZ s.data.toList = x by rw [HE.out, List.getLastD_eq_getLast?, List.getLast?_eq_getElem?, hx]; rfl)
    have hne : ((L.length : Int) == 0) = false := by simp; exact h0
    have hw1 : (0 : Int) ≤ (L.length : Int) - 1 := by omega
    have hpi : (1 : Int) ≤ (L.length : Int) := by omega
    have hnt : ((L.length : Int) - 1).toNat = L.length - 1 := by omega
    have HX := Lib.hid hx
    clear HE h0 hx
    go_enter Tryd.func19, Tryd.ntmps19
    go_wp2_with fail
    refine C1.out.mono ?_
    rintro e w1 ⟨⟨ad, c, rfl, hc, hS⟩, b1⟩
    obtain ⟨g, off, rfl, hg, d0⟩ := hS.get _ x HX.out
    have B1 := Lib.hid b1
    clear hS b1
    go_wp2_with fail
    go_ret
    exact ⟨congrArg (fun l : Nm => Ending.returned (Value.string ⟨l.toArray⟩)) HE2.out.symm, B1.out⟩
theorem cat_mk (s t : ByteArray) : s ++ t = ⟨(s.data.toList ++ t.data.toList).toArray⟩ := by
  apply ByteArray.ext
  simp
set_option maxHeartbeats 1000000 in
theorem parent_any (s : ByteArray) (w : World) (hs : s.size ≤ 4194304) (hm : Mx w) : Calls Tryd.prog 13 #[.string s] w fun e w' => e = .returned (.tuple #[.string ⟨(parentZ s.data.toList).toArray⟩, .bool (isParent s.data.toList)]) ∧ Below w.heap.size w w' := by
  have C1 := names_any s w hs hm
  unfold Named at C1
  have hll := ls_len s.data.toList
  have hna := ls_names s.data.toList
  have HE := Lib.hid (show parentZ s.data.toList = if lsOf s.data.toList = [] then [] else pathOf (lsOf s.data.toList).dropLast from rfl)
  have HI := Lib.hid (show isParent s.data.toList = !(lsOf s.data.toList).isEmpty from rfl)
  obtain ⟨L, hL⟩ : ∃ L, L = lsOf s.data.toList := ⟨_, rfl⟩
  rw [← hL] at C1 hll HE HI hna
  have C1 := Lib.hid C1
  clear hm hL
  by_cases h0 : L = []
  · have HE2 := Lib.hid (show parentZ s.data.toList = [] by rw [HE.out, if_pos h0])
    have HI2 := Lib.hid (show isParent s.data.toList = false by rw [HI.out, h0]; rfl)
    have hl0 : L.length = 0 := by rw [h0]; rfl
    rw [hl0] at C1
    clear HE hll h0 hl0 hna HI
    go_enter Tryd.func13, Tryd.ntmps13
    go_wp2_with fail
    refine C1.out.mono ?_
    rintro e w1 ⟨⟨ad, c, rfl, hc, hS⟩, b1⟩
    have B1 := Lib.hid b1
    clear hS b1
    go_wp2_with fail
    exact ret_two rfl rfl (x := .string ⟨#[]⟩) (y := .bool false) rfl rfl ⟨by rw [HE2.out, HI2.out], B1.out⟩
  · have hpos : 0 < L.length := List.length_pos_iff.2 h0
    have HE2 := Lib.hid (show parentZ s.data.toList = 47 :: Lib.join L.dropLast [47] by rw [HE.out, if_neg h0, join_flat])
    have HI2 := Lib.hid (show isParent s.data.toList = true by rw [HI.out]; cases L with | nil => exact absurd rfl h0 | cons _ _ => rfl)
    have hne : ((L.length : Int) == 0) = false := by simp; exact h0
    have hw1 : (0 : Int) ≤ (L.length : Int) - 1 := by omega
    have hpi : (1 : Int) ≤ (L.length : Int) := by omega
    have hnt : ((L.length : Int) - 1).toNat = L.length - 1 := by omega
    have hdl : L.dropLast.length = L.length - 1 := List.length_dropLast
    have hjl : (Lib.join L.dropLast [47]).length ≤ 488 := by
      have h1 := join_flat L.dropLast
      have h2 : (pathOf L.dropLast).length ≤ 489 := by
        have h3 : L.dropLast.all nameB = true := List.all_eq_true.2 fun x hx => List.all_eq_true.1 hna x (List.dropLast_subset L hx)
        have h4 := flat_len L.dropLast h3
        unfold pathOf; split
        · simp
        · omega
      rw [← h1, List.length_cons] at h2
      omega
    have HJ := Lib.hid hjl
    have HDL := Lib.hid hdl
    obtain ⟨J, hJ⟩ : ∃ J, J = Lib.join L.dropLast [47] := ⟨_, rfl⟩
    rw [← hJ] at hjl HE2
    have HJJ := Lib.hid hJ
    clear HE h0 hna HI hdl hJ
    go_enter Tryd.func13, Tryd.ntmps13
    go_wp2_with fail
    refine C1.out.mono ?_
    rintro e w1 ⟨⟨ad, c, rfl, hc, hS⟩, b1⟩
    obtain ⟨x, hx⟩ : ∃ x, L[0]? = some x := ⟨_, List.getElem?_eq_getElem hpos⟩
    obtain ⟨g, off, rfl, hg, d0⟩ := hS.get _ x hx
    have HS := Lib.hid hS
    have B1 := Lib.hid b1
    have C2 := Tryd.strings_Join g off c (L.dropLast.map fun x => ⟨x.toArray⟩) slash w1 (fun j y hy => by
        rw [List.getElem?_map] at hy
        cases hz : L.dropLast[j]? with
        | none => rw [hz] at hy; cases hy
        | some z =>
          rw [hz] at hy
          obtain rfl : (⟨z.toArray⟩ : ByteArray) = y := by simpa using hy
          have hzL : L[j]? = some z := by
            rw [List.getElem?_dropLast] at hz
            split at hz
            · exact hz
            · cases hz
          obtain ⟨g', off', he, _, d1⟩ := HS.out.get j z hzL
          obtain ⟨rfl, rfl⟩ : g = g' ∧ off = off' := by injection he with h1; injection h1 with h2 h3; exact ⟨h2, h3⟩
          exact d1) hg (by rw [List.length_map, HDL.out]; omega) (by rw [List.length_map, HDL.out]; omega) (by
          rw [List.map_map, show (fun x : ByteArray => x.data.toList) ∘ (fun x : Nm => (⟨x.toArray⟩ : ByteArray)) = id from rfl, List.map_id]
          exact Nat.le_trans HJ.out (by omega))
    rw [List.length_map, HDL.out, List.map_map, show (fun x : ByteArray => x.data.toList) ∘ (fun x : Nm => (⟨x.toArray⟩ : ByteArray)) = id from rfl, List.map_id, show slash.data.toList = [47] from rfl, ← HJJ.out] at C2
    unfold slash at C2
    have C2 := Lib.hid C2
    clear hx d0 b1 hS
    go_wp2_with fail
    refine C2.out.mono ?_
    rintro e w2 ⟨rfl, b2⟩
    have B2 := Lib.hid (B1.out.trans (b2.mono B1.out.size))
    clear b2
    go_wp2_with fail
    exact ret_two rfl rfl (x := .string (⟨#[47]⟩ ++ ⟨J.toArray⟩)) (y := .bool true) rfl rfl ⟨by rw [HE2.out, HI2.out, cat_mk]; rfl, B2.out⟩
end Go.Proofs.YtegpoiepeaofgaaDoor
