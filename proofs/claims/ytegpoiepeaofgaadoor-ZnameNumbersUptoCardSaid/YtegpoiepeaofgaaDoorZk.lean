/- The walks of ZnameParts, ZnameUnder; the document's Under. Conditions: the texts have at most 1048576 bytes; the library's variable holds a number. -/
import Derived.Test.YtegpoiepeaofgaaDoorZj
namespace Go.Proofs.YtegpoiepeaofgaaDoor
open Go Go.RowKit Zn
set_option linter.unusedVariables false
set_option linter.unusedSimpArgs false
variable {w w' : World}

set_option maxHeartbeats 1000000 in
theorem znameParts_walk (W : World) (hm : Mx W) (s : ByteArray) (hw : s.size ≤ maxLen) (hs : s.size ≤ 1048576) :
    Calls Tryd.prog 5 #[.string s] W fun e W' => e = .returned (.bool true) ∧ Below W.heap.size W W' := by
  have HM := Lib.hid hm
  have C1 := fun w1 (h : Mx w1) => parent_any s w1 (by omega) h
  have C2 := fun w1 => rparent_any s w1 (by omega)
  have C3 := fun w1 (h : Mx w1) => valid_any s w1 (by omega) h
  have C4 := fun w1 => rvalid_any s w1 (by omega)
  have C5 := fun w1 (h : Mx w1) => depth_any s w1 (by omega) h
  have C6 := fun w1 => rdepth_any s w1 (by omega)
  have C7 := fun w1 (h : Mx w1) => base_any s w1 (by omega) h
  have C8 := fun w1 => rbase_any s w1 (by omega)
  generalize parentZ s.data.toList = P at C1 C2
  generalize isParent s.data.toList = ip at C1 C2
  generalize validZ s.data.toList = v at C3 C4
  generalize depthZ s.data.toList = d at C5 C6
  generalize baseZ s.data.toList = x at C7 C8
  have C1 := Lib.hid C1
  have C2 := Lib.hid C2
  have C3 := Lib.hid C3
  have C4 := Lib.hid C4
  have C5 := Lib.hid C5
  have C6 := Lib.hid C6
  have C7 := Lib.hid C7
  have C8 := Lib.hid C8
  clear hm hw
  go_enter Tryd.func5, Tryd.ntmps5
  go_wp2_with fail
  refine (C1.out _ HM.out).mono ?_
  rintro e w1 ⟨rfl, b1⟩
  have B1 := Lib.hid b1
  clear b1
  go_wp2_with fail
  refine (C2.out _).mono ?_
  rintro e w2 ⟨rfl, b2⟩
  have B2 := Lib.hid (B1.out.trans (b2.mono B1.out.size))
  clear b2
  go_wp2_with fail
  refine (alive_any _ (HM.out.below B2.out)).mono ?_
  rintro e w3 ⟨rfl, b3⟩
  have B3 := Lib.hid (B2.out.trans (b3.mono B2.out.size))
  clear b3
  go_wp2_with fail
  refine (C3.out _ (HM.out.below B3.out)).mono ?_
  rintro e w4 ⟨rfl, b4⟩
  have B4 := Lib.hid (B3.out.trans (b4.mono B3.out.size))
  clear b4
  go_wp2_with fail
  refine (C4.out _).mono ?_
  rintro e w5 ⟨rfl, b5⟩
  have B5 := Lib.hid (B4.out.trans (b5.mono B4.out.size))
  clear b5
  go_wp2_with fail
  refine (C5.out _ (HM.out.below B5.out)).mono ?_
  rintro e w6 ⟨rfl, b6⟩
  have B6 := Lib.hid (B5.out.trans (b6.mono B5.out.size))
  clear b6
  go_wp2_with fail
  refine (C6.out _).mono ?_
  rintro e w7 ⟨rfl, b7⟩
  have B7 := Lib.hid (B6.out.trans (b7.mono B6.out.size))
  clear b7
  go_wp2_with fail
  refine (C7.out _ (HM.out.below B7.out)).mono ?_
  rintro e w8 ⟨rfl, b8⟩
  have B8 := Lib.hid (B7.out.trans (b8.mono B7.out.size))
  clear b8
  go_wp2_with fail
  refine (C8.out _).mono ?_
  rintro e w9 ⟨rfl, b9⟩
  have B9 := Lib.hid (B8.out.trans (b9.mono B8.out.size))
  clear b9
  go_wp2_with fail
  go_ret
  exact ⟨ret_bool (by simp), B9.out⟩

set_option maxHeartbeats 1000000 in
theorem runder_any (s t : ByteArray) (w : World) (hs : s.size ≤ 2000000) (ht : t.size ≤ 2000000) :
    Calls Tryd.prog 12 #[.string s, .string t] w fun e w' => e = .returned (.bool (underZ s.data.toList t.data.toList)) ∧ Below w.heap.size w w' := by
  have HU := Lib.hid (show underZ s.data.toList t.data.toList = (validZ s.data.toList && validZ t.data.toList && (lsOf t.data.toList).isPrefixOf (lsOf s.data.toList)) from rfl)
  cases hv : validZ s.data.toList
  · have HNO := Lib.hid (show underZ s.data.toList t.data.toList = false by rw [HU.out, hv]; rfl)
    have C1 := Lib.hid (rnames_no s w (by omega) hv)
    have C2 := Lib.hid (fun w1 => rnames_any t w1 (by omega))
    clear hv HU
    go_enter Tryd.func12, Tryd.ntmps12
    go_wp2_with fail
    refine C1.out.mono ?_
    rintro e w1 ⟨ad, n, c, rfl, b1⟩
    have B1 := Lib.hid b1
    clear b1
    go_wp2_with fail
    refine (C2.out _).mono ?_
    rintro e w2 ⟨⟨ad2, n2, c2, rfl, _⟩, b2⟩
    have B2 := Lib.hid (B1.out.trans (b2.mono B1.out.size))
    clear b2
    go_wp2_with fail
    go_ret
    exact ⟨ret_bool HNO.out.symm, B2.out⟩
  obtain ⟨L, hL⟩ := valid_some hv
  cases hv2 : validZ t.data.toList
  · have HNO := Lib.hid (show underZ s.data.toList t.data.toList = false by rw [HU.out, hv2]; simp)
    have C1 := Lib.hid (rnames_yes s w (by omega) L hL)
    have C2 := Lib.hid (fun w1 => rnames_no t w1 (by omega) hv2)
    clear hv HU hL hv2
    go_enter Tryd.func12, Tryd.ntmps12
    go_wp2_with fail
    refine C1.out.mono ?_
    rintro e w1 ⟨ad, c, rfl, hc, hS, h0, b1⟩
    have B1 := Lib.hid b1
    clear b1 hS h0
    go_wp2_with fail
    refine (C2.out _).mono ?_
    rintro e w2 ⟨ad2, n2, c2, rfl, b2⟩
    have B2 := Lib.hid (B1.out.trans (b2.mono B1.out.size))
    clear b2
    go_wp2_with fail
    go_ret
    exact ⟨ret_bool HNO.out.symm, B2.out⟩
  obtain ⟨M, hM⟩ := valid_some hv2
  have HU2 := Lib.hid (show underZ s.data.toList t.data.toList = M.isPrefixOf L by rw [HU.out, hv, hv2, ls_of hL, ls_of hM]; rfl)
  obtain ⟨_, l8, lna⟩ := (names_iff _ _).1 hL
  obtain ⟨_, m8, mna⟩ := (names_iff _ _).1 hM
  have C1 := Lib.hid (rnames_yes s w (by omega) L hL)
  have C2 := Lib.hid (fun w1 => rnames_yes t w1 (by omega) M hM)
  clear hv hv2 hL hM HU
  by_cases hlm : L.length < M.length
  · have HNO := Lib.hid (show underZ s.data.toList t.data.toList = false by rw [HU2.out, pre_len hlm])
    clear HU2
    go_enter Tryd.func12, Tryd.ntmps12
    go_wp2_with fail
    refine C1.out.mono ?_
    rintro e w1 ⟨ad, c, rfl, hc, hS, h0, b1⟩
    have B1 := Lib.hid b1
    clear b1 hS h0
    go_wp2_with fail
    refine (C2.out _).mono ?_
    rintro e w2 ⟨ad2, c2, rfl, hc2, hS2, h02, b2⟩
    have B2 := Lib.hid (B1.out.trans (b2.mono B1.out.size))
    clear b2 hS2 h02
    go_wp2_with fail
    go_ret
    exact ⟨ret_bool HNO.out.symm, B2.out⟩
  · have HPP := Lib.hid (prefix_path l8 lna m8 mna (by omega))
    have hlm' : decide (L.length < M.length) = false := by simpa using hlm
    have hml : (M.length : Int) ≤ (L.length : Int) := by omega
    have HLN := Lib.hid lna
    have HMN := Lib.hid mna
    have htk : (L.take M.length).length = M.length := by rw [List.length_take]; omega
    have HTK := Lib.hid htk
    clear htk lna mna
    have fin : ∀ (ad : Option Addr) (c : Nat) (w2 : World), Strs w2 ad L → Calls Tryd.prog 27 #[.slice ad M.length c] w2 fun e w' => e = .returned (.string ⟨(pathOf (L.take M.length)).toArray⟩) ∧ w2 = w' := fun ad c w2 h => by
      have := rpath_any ad c (L.take M.length) w2 (h.take _) (by rw [HTK.out]; exact m8) (List.all_eq_true.2 fun y hy => List.all_eq_true.1 HLN.out y (List.mem_of_mem_take hy))
      rwa [HTK.out] at this
    have C3 := fin
    have C4 := fun ad c w2 (h : Strs w2 ad M) => rpath_any ad c M w2 h m8 HMN.out
    rw [← HPP.out] at HU2
    generalize pathOf (L.take M.length) = A at C3 HU2
    generalize pathOf M = B at C4 HU2
    have C3 := Lib.hid C3
    have C4 := Lib.hid C4
    clear fin HLN HMN HPP HTK
    by_cases hL0 : L = []
    · subst hL0
      obtain rfl : M = [] := List.length_eq_zero_iff.1 (by simpa using hml)
      go_enter Tryd.func12, Tryd.ntmps12
      go_wp2_with fail
      refine C1.out.mono ?_
      rintro e w1 ⟨ad, c, rfl, hc, hS, h0, b1⟩
      obtain ⟨rfl, rfl⟩ := h0 (by first | rfl | trivial)
      have HS := Lib.hid hS
      have B1 := Lib.hid b1
      clear b1 hS
      go_wp2_with fail
      refine (C2.out _).mono ?_
      rintro e w2 ⟨ad2, c2, rfl, hc2, hS2, h02, b2⟩
      have HS1 := Lib.hid (HS.out.below b2)
      have HS2 := Lib.hid hS2
      have B2 := Lib.hid (B1.out.trans (b2.mono B1.out.size))
      clear b2 hS2 h02
      go_wp2_with fail
      refine (C3.out _ _ _ HS1.out).mono ?_
      rintro e w3 ⟨rfl, rfl⟩
      go_wp2_with fail
      refine (C4.out _ _ _ HS2.out).mono ?_
      rintro e w4 ⟨rfl, rfl⟩
      go_wp2_with fail
      go_ret
      exact ⟨ret_bool (by rw [HU2.out]), B2.out⟩
    · obtain ⟨x, hx⟩ : ∃ x, L[0]? = some x := ⟨_, List.getElem?_eq_getElem (List.length_pos_iff.2 hL0)⟩
      have HX := Lib.hid hx
      clear hx hL0
      go_enter Tryd.func12, Tryd.ntmps12
      go_wp2_with fail
      refine C1.out.mono ?_
      rintro e w1 ⟨ad, c, rfl, hc, hS, h0, b1⟩
      obtain ⟨g, off, rfl, hg, d0⟩ := hS.get _ x HX.out
      have HS := Lib.hid hS
      have B1 := Lib.hid b1
      clear b1 hS h0 d0
      go_wp2_with fail
      refine (C2.out _).mono ?_
      rintro e w2 ⟨ad2, c2, rfl, hc2, hS2, h02, b2⟩
      have HS1 := Lib.hid (HS.out.below b2)
      have HS2 := Lib.hid hS2
      have B2 := Lib.hid (B1.out.trans (b2.mono B1.out.size))
      clear b2 hS2 h02
      go_wp2_with fail
      refine (C3.out _ _ _ HS1.out).mono ?_
      rintro e w3 ⟨rfl, rfl⟩
      go_wp2_with fail
      refine (C4.out _ _ _ HS2.out).mono ?_
      rintro e w4 ⟨rfl, rfl⟩
      go_wp2_with fail
      go_ret
      exact ⟨ret_bool (by rw [HU2.out]), B2.out⟩

theorem under_trans {a b c : Nm} (h : underZ a b = true) (k : underZ b c = true) : underZ a c = true := by
  unfold underZ at *
  simp only [Bool.and_eq_true] at *
  refine ⟨⟨h.1.1, k.1.2⟩, ?_⟩
  rw [List.isPrefixOf_iff_prefix] at *
  exact k.2.trans h.2
set_option maxHeartbeats 1000000 in
theorem znameUnder_walk (W : World) (hm : Mx W) (a : ByteArray) (hwa : a.size ≤ maxLen) (ha : a.size ≤ 1048576) (b : ByteArray) (hwb : b.size ≤ maxLen) (hb : b.size ≤ 1048576) (c : ByteArray) (hwc : c.size ≤ maxLen) (hc : c.size ≤ 1048576) :
    Calls Tryd.prog 4 #[.string a, .string b, .string c] W fun e W' => e = .returned (.bool true) ∧ Below W.heap.size W W' := by
  have HM := Lib.hid hm
  have C1 := fun w1 (h : Mx w1) => under_any a b w1 (by omega) (by omega) h
  have C2 := fun w1 (h : Mx w1) => under_any b c w1 (by omega) (by omega) h
  have C3 := fun w1 => runder_any a b w1 (by omega) (by omega)
  have C4 := fun w1 => runder_any b c w1 (by omega) (by omega)
  have C5 := fun w1 (h : Mx w1) => under_any a c w1 (by omega) (by omega) h
  have ht := @under_trans a.data.toList b.data.toList c.data.toList
  generalize underZ a.data.toList b.data.toList = x at C1 C3 ht
  generalize underZ b.data.toList c.data.toList = y at C2 C4 ht
  generalize underZ a.data.toList c.data.toList = z at C5 ht
  have HT := Lib.hid ht
  have C1 := Lib.hid C1
  have C2 := Lib.hid C2
  have C3 := Lib.hid C3
  have C4 := Lib.hid C4
  have C5 := Lib.hid C5
  clear hm hwa hwb hwc ht
  cases x
  · go_enter Tryd.func4, Tryd.ntmps4
    go_wp2_with fail
    refine (C1.out _ HM.out).mono ?_
    rintro e w1 ⟨rfl, b1⟩
    have B1 := Lib.hid b1
    clear b1
    go_wp2_with fail
    refine (C2.out _ (HM.out.below B1.out)).mono ?_
    rintro e w2 ⟨rfl, b2⟩
    have B2 := Lib.hid (B1.out.trans (b2.mono B1.out.size))
    clear b2
    go_wp2_with fail
    refine (alive_any _ (HM.out.below B2.out)).mono ?_
    rintro e w3 ⟨rfl, b3⟩
    have B3 := Lib.hid (B2.out.trans (b3.mono B2.out.size))
    clear b3
    go_wp2_with fail
    refine (C3.out _).mono ?_
    rintro e w4 ⟨rfl, b4⟩
    have B4 := Lib.hid (B3.out.trans (b4.mono B3.out.size))
    clear b4
    go_wp2_with fail
    refine (C4.out _).mono ?_
    rintro e w5 ⟨rfl, b5⟩
    have B5 := Lib.hid (B4.out.trans (b5.mono B4.out.size))
    clear b5
    go_wp2_with fail
    go_ret
    exact ⟨ret_bool (by simp), B5.out⟩
  cases y
  · go_enter Tryd.func4, Tryd.ntmps4
    go_wp2_with fail
    refine (C1.out _ HM.out).mono ?_
    rintro e w1 ⟨rfl, b1⟩
    have B1 := Lib.hid b1
    clear b1
    go_wp2_with fail
    refine (C2.out _ (HM.out.below B1.out)).mono ?_
    rintro e w2 ⟨rfl, b2⟩
    have B2 := Lib.hid (B1.out.trans (b2.mono B1.out.size))
    clear b2
    go_wp2_with fail
    refine (alive_any _ (HM.out.below B2.out)).mono ?_
    rintro e w3 ⟨rfl, b3⟩
    have B3 := Lib.hid (B2.out.trans (b3.mono B2.out.size))
    clear b3
    go_wp2_with fail
    refine (C3.out _).mono ?_
    rintro e w4 ⟨rfl, b4⟩
    have B4 := Lib.hid (B3.out.trans (b4.mono B3.out.size))
    clear b4
    go_wp2_with fail
    refine (C4.out _).mono ?_
    rintro e w5 ⟨rfl, b5⟩
    have B5 := Lib.hid (B4.out.trans (b5.mono B4.out.size))
    clear b5
    go_wp2_with fail
    go_ret
    exact ⟨ret_bool (by simp), B5.out⟩
  obtain rfl := HT.out rfl rfl
  go_enter Tryd.func4, Tryd.ntmps4
  go_wp2_with fail
  refine (C1.out _ HM.out).mono ?_
  rintro e w1 ⟨rfl, b1⟩
  have B1 := Lib.hid b1
  clear b1
  go_wp2_with fail
  refine (C2.out _ (HM.out.below B1.out)).mono ?_
  rintro e w2 ⟨rfl, b2⟩
  have B2 := Lib.hid (B1.out.trans (b2.mono B1.out.size))
  clear b2
  go_wp2_with fail
  refine (alive_any _ (HM.out.below B2.out)).mono ?_
  rintro e w3 ⟨rfl, b3⟩
  have B3 := Lib.hid (B2.out.trans (b3.mono B2.out.size))
  clear b3
  go_wp2_with fail
  refine (C3.out _).mono ?_
  rintro e w4 ⟨rfl, b4⟩
  have B4 := Lib.hid (B3.out.trans (b4.mono B3.out.size))
  clear b4
  go_wp2_with fail
  refine (C4.out _).mono ?_
  rintro e w5 ⟨rfl, b5⟩
  have B5 := Lib.hid (B4.out.trans (b5.mono B4.out.size))
  clear b5
  go_wp2_with fail
  refine (C5.out _ (HM.out.below B5.out)).mono ?_
  rintro e w6 ⟨rfl, b6⟩
  have B6 := Lib.hid (B5.out.trans (b6.mono B5.out.size))
  clear b6
  go_wp2_with fail
  go_ret
  exact ⟨ret_bool (by simp), B6.out⟩
end Go.Proofs.YtegpoiepeaofgaaDoor
