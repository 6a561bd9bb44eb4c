/- chart: Depth and Under of paths, the code's and the document's (chapter 07's proofs over this seat). Conditions: as in each statement. -/
import Derived.Test.YtbkjhogfpcmcbaaDoorZj
namespace Go.Proofs.YtbkjhogfpcmcbaaDoor
open Go Go.RowKit Zn
set_option linter.unusedVariables false
set_option linter.unusedSimpArgs false
variable {w w' : World}
theorem depth_any (s : ByteArray) (w : World) (hs : s.size ≤ 4194304) (hm : Mx w) : Calls Tryd.prog 52 #[.string s] w fun e w' => e = .returned (.int .i64 (depthZ s.data.toList)) ∧ Below w.heap.size w w' := by
  have C1 := names_any s w hs hm
  cases h : namesO s.data.toList with
  | none =>
    have HE := Lib.hid (show depthZ s.data.toList = -1 by unfold depthZ; rw [h])
    have h2 : validZ s.data.toList = false := by unfold validZ; rw [h]; rfl
    unfold Named at C1
    rw [h2] at C1
    have C1 := Lib.hid C1
    clear hm h h2
    go_enter Tryd.func52, Tryd.ntmps52
    go_wp2_with fail
    refine C1.out.mono ?_
    rintro e w1 ⟨⟨ad, c, rfl, hc, hS⟩, b1⟩
    have B1 := Lib.hid b1
    clear hS b1
    go_wp2_with fail
    go_ret
    exact ⟨congrArg (fun n => Ending.returned (Value.int .i64 n)) HE.out.symm, B1.out⟩
  | some L =>
    have HE := Lib.hid (show depthZ s.data.toList = (lsOf s.data.toList).length by unfold depthZ lsOf; rw [h]; rfl)
    have h2 : validZ s.data.toList = true := by unfold validZ; rw [h]; rfl
    unfold Named at C1
    rw [h2] at C1
    have C1 := Lib.hid C1
    clear hm h h2
    go_enter Tryd.func52, Tryd.ntmps52
    go_wp2_with fail
    refine C1.out.mono ?_
    rintro e w1 ⟨⟨ad, c, rfl, hc, hS⟩, b1⟩
    have B1 := Lib.hid b1
    clear hS b1
    go_wp2_with fail
    go_ret
    exact ⟨congrArg (fun n => Ending.returned (Value.int .i64 n)) HE.out.symm, B1.out⟩
/-- do the first k names agree? -/
theorem pre_step {L M : List Nm} {k : Nat} {x y : Nm} (h : (M.take k).isPrefixOf L = true) (hx : L[k]? = some x) (hy : M[k]? = some y) : (M.take (k + 1)).isPrefixOf L = (x == y) := by
  rw [Bool.eq_iff_iff, beq_iff_eq, List.isPrefixOf_iff_prefix, List.take_add_one, hy]
  rw [List.isPrefixOf_iff_prefix] at h
  obtain ⟨r, hr⟩ := h
  have hk : (M.take k).length = k := by rw [List.length_take]; have := (List.getElem?_eq_some_iff.1 hy).1; omega
  have hx2 : r[0]? = some x := by rw [← hr, List.getElem?_append_right (by omega), hk, Nat.sub_self] at hx; exact hx
  cases r with
  | nil => cases hx2
  | cons z r =>
    obtain rfl : z = x := by simpa using hx2
    rw [← hr]
    simp only [Option.toList_some]
    rw [List.prefix_append_right_inj]
    constructor
    · rintro ⟨q, hq⟩; exact (List.cons.inj hq).1.symm
    · rintro rfl; exact ⟨r, rfl⟩
theorem pre_no {L M : List Nm} {k : Nat} (h : (M.take k).isPrefixOf L = false) : M.isPrefixOf L = false := by
  rw [Bool.eq_false_iff] at h ⊢
  intro h2
  apply h
  rw [List.isPrefixOf_iff_prefix] at h2 ⊢
  exact (List.take_prefix k M).trans h2
theorem pre_len {L M : List Nm} (h : L.length < M.length) : M.isPrefixOf L = false := by
  rw [Bool.eq_false_iff, ne_eq, List.isPrefixOf_iff_prefix]
  intro h2; have := h2.length_le; omega
set_option maxHeartbeats 1000000 in
theorem under_any (s t : ByteArray) (w : World) (hs : s.size ≤ 2000000) (ht : t.size ≤ 2000000) (hm : Mx w) :
    Calls Tryd.prog 48 #[.string s, .string t] w fun e w' => e = .returned (.bool (underZ s.data.toList t.data.toList)) ∧ Below w.heap.size w w' := by
  have C1 := names_any s w (by omega) hm
  have C2 := fun w1 (h : Mx w1) => names_any t w1 (by omega) h
  unfold Named at C1 C2
  have hll := ls_len s.data.toList
  have hml := ls_len t.data.toList
  have HM := Lib.hid hm
  have HU := Lib.hid (show underZ s.data.toList t.data.toList = (validZ s.data.toList && validZ t.data.toList && (lsOf t.data.toList).isPrefixOf (lsOf s.data.toList)) from rfl)
  obtain ⟨L, hL⟩ : ∃ L, L = lsOf s.data.toList := ⟨_, rfl⟩
  obtain ⟨M, hM⟩ : ∃ M, M = lsOf t.data.toList := ⟨_, rfl⟩
  rw [← hL, ← hM] at HU
  rw [← hL] at C1 hll
  rw [← hM] at C2 hml
  clear hm hL hM
  cases hv : validZ s.data.toList
  · rw [hv] at C1 HU
    have C1 := Lib.hid C1
    have C2 := Lib.hid C2
    have HNO := Lib.hid (show underZ s.data.toList t.data.toList = false from HU.out)
    clear hv HU
    go_enter Tryd.func48, Tryd.ntmps48
    go_wp2_with fail
    refine C1.out.mono ?_
    rintro e w1 ⟨⟨ad, c, rfl, hc, hS⟩, b1⟩
    have B1 := Lib.hid b1
    have M1 := Lib.hid (HM.out.below b1)
    clear hS b1
    go_wp2_with fail
    refine (C2.out _ M1.out).mono ?_
    rintro e w2 ⟨⟨ad2, c2, rfl, hc2, hS2⟩, b2⟩
    have B2 := Lib.hid (B1.out.trans (b2.mono B1.out.size))
    clear hS2 b2
    go_wp2_with fail
    go_ret
    exact ⟨ret_bool HNO.out.symm, B2.out⟩
  cases hv2 : validZ t.data.toList
  · rw [hv] at C1 HU
    rw [hv2] at HU C2
    have C1 := Lib.hid C1
    have C2 := Lib.hid C2
    have HNO := Lib.hid (show underZ s.data.toList t.data.toList = false from HU.out)
    clear hv HU hv2
    go_enter Tryd.func48, Tryd.ntmps48
    go_wp2_with fail
    refine C1.out.mono ?_
    rintro e w1 ⟨⟨ad, c, rfl, hc, hS⟩, b1⟩
    have B1 := Lib.hid b1
    have M1 := Lib.hid (HM.out.below b1)
    clear hS b1
    go_wp2_with fail
    refine (C2.out _ M1.out).mono ?_
    rintro e w2 ⟨⟨ad2, c2, rfl, hc2, hS2⟩, b2⟩
    have B2 := Lib.hid (B1.out.trans (b2.mono B1.out.size))
    clear hS2 b2
    go_wp2_with fail
    go_ret
    exact ⟨ret_bool HNO.out.symm, B2.out⟩
  rw [hv] at C1 HU
  rw [hv2] at HU C2
  have C1 := Lib.hid C1
  have C2 := Lib.hid C2
  rw [Bool.and_self, Bool.true_and] at HU
  clear hv hv2
  by_cases hlm : L.length < M.length
  · have HNO := Lib.hid (show underZ s.data.toList t.data.toList = false by rw [HU.out, pre_len hlm])
    clear HU
    go_enter Tryd.func48, Tryd.ntmps48
    go_wp2_with fail
    refine C1.out.mono ?_
    rintro e w1 ⟨⟨ad, c, rfl, hc, hS⟩, b1⟩
    have B1 := Lib.hid b1
    have M1 := Lib.hid (HM.out.below b1)
    clear hS b1
    go_wp2_with fail
    refine (C2.out _ M1.out).mono ?_
    rintro e w2 ⟨⟨ad2, c2, rfl, hc2, hS2⟩, b2⟩
    have B2 := Lib.hid (B1.out.trans (b2.mono B1.out.size))
    clear hS2 b2
    go_wp2_with fail
    go_ret
    exact ⟨ret_bool HNO.out.symm, B2.out⟩
  · have hlm' : decide (L.length < M.length) = false := by simpa using hlm
    go_enter Tryd.func48, Tryd.ntmps48
    go_wp2_with fail
    refine C1.out.mono ?_
    rintro e w1 ⟨⟨ad, c, rfl, hc, hS⟩, b1⟩
    have B1 := Lib.hid b1
    have M1 := Lib.hid (HM.out.below b1)
    have HS := Lib.hid hS
    clear hS b1
    go_wp2_with fail
    refine (C2.out _ M1.out).mono ?_
    rintro e w2 ⟨⟨ad2, c2, rfl, hc2, hS2⟩, b2⟩
    have B2 := Lib.hid (B1.out.trans (b2.mono B1.out.size))
    have HL := Lib.hid (HS.out.below b2)
    have HK := Lib.hid hS2
    clear hS2 b2 HS
    go_wp2_with fail
    go_loop [9, 10, 36] (fun _ _ i => ∃ k : Nat, k ≤ M.length ∧ i = .int .i64 k ∧ (M.take k).isPrefixOf L = true) (fun _ _ i => M.length - (intOf i).toNat)
    case atStart => exact ⟨0, Nat.zero_le _, rfl, rfl⟩
    case round =>
      obtain ⟨k, hk, rfl, hpr⟩ := hrel
      have HP := Lib.hid hpr
      clear hpr
      by_cases hlt : k < M.length
      · obtain ⟨y, hy⟩ : ∃ y, M[k]? = some y := ⟨_, List.getElem?_eq_getElem hlt⟩
        obtain ⟨x, hx⟩ : ∃ x, L[k]? = some x := ⟨_, List.getElem?_eq_getElem (by omega)⟩
        obtain ⟨g, off, rfl, hg, d0⟩ := HL.out.get k x hx
        obtain ⟨g2, off2, rfl, hg2, e0⟩ := HK.out.get k y hy
        have HN := Lib.hid (pre_step HP.out hx hy)
        clear hx hy
        cases hxy : (x == y)
        · rw [hxy] at HN
          have HNO := Lib.hid (show underZ s.data.toList t.data.toList = false by rw [HU.out]; exact pre_no HN.out)
          clear HN
          go_wp2_with fail
          go_ret
          exact ⟨ret_bool HNO.out.symm, B2.out⟩
        · rw [hxy] at HN
          go_wp2_with fail
          go_round
          case rel => exact ⟨k + 1, by omega, by go_num, HN.out⟩
          case measure => simp [intOf]; omega
      · obtain rfl : k = M.length := by omega
        rw [List.take_length] at HP
        go_wp2_with fail
        go_ret
        exact ⟨ret_bool (by rw [HU.out]; exact HP.out.symm), B2.out⟩
theorem rdepth_any (s : ByteArray) (w : World) (hs : s.size ≤ 4194304) : Calls Tryd.prog 55 #[.string s] w fun e w' => e = .returned (.int .i64 (depthZ s.data.toList)) ∧ Below w.heap.size w w' := by
  cases hv : validZ s.data.toList
  · have HE := Lib.hid (show depthZ s.data.toList = -1 by unfold depthZ; rw [valid_none hv])
    have C1 := Lib.hid (rnames_no s w hs hv)
    clear hv
    go_enter Tryd.func55, Tryd.ntmps55
    go_wp2_with fail
    refine C1.out.mono ?_
    rintro e w1 ⟨ad, n, c, rfl, b1⟩
    have B1 := Lib.hid b1
    clear b1
    go_wp2_with fail
    go_ret
    exact ⟨congrArg (fun n => Ending.returned (Value.int .i64 n)) HE.out.symm, B1.out⟩
  · obtain ⟨L, hL⟩ := valid_some hv
    have HE := Lib.hid (show depthZ s.data.toList = L.length by unfold depthZ; rw [hL])
    have C1 := Lib.hid (rnames_yes s w hs L hL)
    clear hv hL
    go_enter Tryd.func55, Tryd.ntmps55
    go_wp2_with fail
    refine C1.out.mono ?_
    rintro e w1 ⟨ad, c, rfl, hc, hS, h0, b1⟩
    have B1 := Lib.hid b1
    clear b1 hS h0
    go_wp2_with fail
    go_ret
    exact ⟨congrArg (fun n => Ending.returned (Value.int .i64 n)) HE.out.symm, B1.out⟩
theorem cat_mk (s t : ByteArray) : s ++ t = ⟨(s.data.toList ++ t.data.toList).toArray⟩ := by
  apply ByteArray.ext
  simp
set_option maxHeartbeats 1000000 in
theorem rpath_any (ad : Option Addr) (c : Nat) (L : List Nm) (w : World) (hS : Strs w ad L) (h8 : L.length ≤ 8) (hn : L.all nameB = true) :
    Calls Tryd.prog 57 #[.slice ad L.length c] w fun e w' => e = .returned (.string ⟨(pathOf L).toArray⟩) ∧ w = w' := by
  have HS := Lib.hid hS
  have HN := Lib.hid hn
  clear hS hn
  by_cases h0 : L = []
  · subst h0
    go_enter Tryd.func57, Tryd.ntmps57
    go_wp2_with fail
    go_ret
    exact ⟨rfl, rfl⟩
  · have hne : ((L.length : Int) == 0) = false := by simp; exact h0
    have HP := Lib.hid (path_of_ne h0)
    clear h0
    go_enter Tryd.func57, Tryd.ntmps57
    go_wp2_with fail
    go_loop [3, 4] (fun v i => ∃ (k : Nat) (p : ByteArray), k ≤ L.length ∧ i = .int .i64 k ∧ v = .string p ∧ p.data.toList = flat (L.take k)) (fun _ i => L.length - (intOf i).toNat)
    case atStart => exact ⟨0, _, Nat.zero_le _, rfl, rfl, rfl⟩
    case round =>
      obtain ⟨k, p, hk, rfl, rfl, hp⟩ := hrel
      have hall : (L.take k).all nameB = true := List.all_eq_true.2 fun x hx => List.all_eq_true.1 HN.out x (List.mem_of_mem_take hx)
      have hfl := flat_len (L.take k) hall
      have hps : p.size ≤ 488 := by
        rw [Lib.size_eq, hp]
        have : (L.take k).length ≤ 8 := by rw [List.length_take]; omega
        omega
      have HPP := Lib.hid hp
      clear hp hall hfl
      by_cases hlt : k < L.length
      · obtain ⟨x, hx⟩ : ∃ x, L[k]? = some x := ⟨_, List.getElem?_eq_getElem hlt⟩
        obtain ⟨g, off, rfl, hg, d0⟩ := HS.out.get k x hx
        have hxl := (name_len (List.all_eq_true.1 HN.out x (List.mem_of_getElem? hx))).2
        have HX := Lib.hid (show flat (L.take (k + 1)) = flat (L.take k) ++ 47 :: x by rw [List.take_add_one, hx, flat_app]; simp [flat])
        clear hx
        go_wp2_with fail
        go_round
        case rel => exact ⟨k + 1, _, by omega, by go_num, rfl, by rw [HX.out, cat_mk, cat_mk, HPP.out]; simp⟩
        case measure => simp [intOf]; omega
      · obtain rfl : k = L.length := by omega
        have HE := Lib.hid (show p.data.toList = pathOf L by rw [HPP.out, List.take_length, HP.out])
        go_wp2_with fail
        go_ret
        exact ⟨congrArg (fun l : Nm => Ending.returned (Value.string ⟨l.toArray⟩)) HE.out, rfl⟩
set_option maxHeartbeats 1000000 in
theorem runder_any (s t : ByteArray) (w : World) (hs : s.size ≤ 2000000) (ht : t.size ≤ 2000000) :
    Calls Tryd.prog 54 #[.string s, .string t] w fun e w' => e = .returned (.bool (underZ s.data.toList t.data.toList)) ∧ Below w.heap.size w w' := by
  have HU := Lib.hid (show underZ s.data.toList t.data.toList = (validZ s.data.toList && validZ t.data.toList && (lsOf t.data.toList).isPrefixOf (lsOf s.data.toList)) from rfl)
  cases hv : validZ s.data.toList
  · have HNO := Lib.hid (show underZ s.data.toList t.data.toList = false by rw [HU.out, hv]; rfl)
    have C1 := Lib.hid (rnames_no s w (by omega) hv)
    have C2 := Lib.hid (fun w1 => rnames_any t w1 (by omega))
    clear hv HU
    go_enter Tryd.func54, Tryd.ntmps54
    go_wp2_with fail
    refine C1.out.mono ?_
    rintro e w1 ⟨ad, n, c, rfl, b1⟩
    have B1 := Lib.hid b1
    clear b1
    go_wp2_with fail
    refine (C2.out _).mono ?_
    rintro e w2 ⟨⟨ad2, n2, c2, rfl, _⟩, b2⟩
    have B2 := Lib.hid (B1.out.trans (b2.mono B1.out.size))
    clear b2
    go_wp2_with fail
    go_ret
    exact ⟨ret_bool HNO.out.symm, B2.out⟩
  obtain ⟨L, hL⟩ := valid_some hv
  cases hv2 : validZ t.data.toList
  · have HNO := Lib.hid (show underZ s.data.toList t.data.toList = false by rw [HU.out, hv2]; simp)
    have C1 := Lib.hid (rnames_yes s w (by omega) L hL)
    have C2 := Lib.hid (fun w1 => rnames_no t w1 (by omega) hv2)
    clear hv HU hL hv2
    go_enter Tryd.func54, Tryd.ntmps54
    go_wp2_with fail
    refine C1.out.mono ?_
    rintro e w1 ⟨ad, c, rfl, hc, hS, h0, b1⟩
    have B1 := Lib.hid b1
    clear b1 hS h0
    go_wp2_with fail
    refine (C2.out _).mono ?_
    rintro e w2 ⟨ad2, n2, c2, rfl, b2⟩
    have B2 := Lib.hid (B1.out.trans (b2.mono B1.out.size))
    clear b2
    go_wp2_with fail
    go_ret
    exact ⟨ret_bool HNO.out.symm, B2.out⟩
  obtain ⟨M, hM⟩ := valid_some hv2
  have HU2 := Lib.hid (show underZ s.data.toList t.data.toList = M.isPrefixOf L by rw [HU.out, hv, hv2, ls_of hL, ls_of hM]; rfl)
  obtain ⟨_, l8, lna⟩ := (names_iff _ _).1 hL
  obtain ⟨_, m8, mna⟩ := (names_iff _ _).1 hM
  have C1 := Lib.hid (rnames_yes s w (by omega) L hL)
  have C2 := Lib.hid (fun w1 => rnames_yes t w1 (by omega) M hM)
  clear hv hv2 hL hM HU
  by_cases hlm : L.length < M.length
  · have HNO := Lib.hid (show underZ s.data.toList t.data.toList = false by rw [HU2.out, pre_len hlm])
    clear HU2
    go_enter Tryd.func54, Tryd.ntmps54
    go_wp2_with fail
    refine C1.out.mono ?_
    rintro e w1 ⟨ad, c, rfl, hc, hS, h0, b1⟩
    have B1 := Lib.hid b1
    clear b1 hS h0
    go_wp2_with fail
    refine (C2.out _).mono ?_
    rintro e w2 ⟨ad2, c2, rfl, hc2, hS2, h02, b2⟩
    have B2 := Lib.hid (B1.out.trans (b2.mono B1.out.size))
    clear b2 hS2 h02
    go_wp2_with fail
    go_ret
    exact ⟨ret_bool HNO.out.symm, B2.out⟩
  · have HPP := Lib.hid (prefix_path l8 lna m8 mna (by omega))
    have hlm' : decide (L.length < M.length) = false := by simpa using hlm
    have hml : (M.length : Int) ≤ (L.length : Int) := by omega
    have HLN := Lib.hid lna
    have HMN := Lib.hid mna
    have htk : (L.take M.length).length = M.length := by rw [List.length_take]; omega
    have HTK := Lib.hid htk
    clear htk lna mna
    have fin : ∀ (ad : Option Addr) (c : Nat) (w2 : World), Strs w2 ad L → Calls Tryd.prog 57 #[.slice ad M.length c] w2 fun e w' => e = .returned (.string ⟨(pathOf (L.take M.length)).toArray⟩) ∧ w2 = w' := fun ad c w2 h => by
      have := rpath_any ad c (L.take M.length) w2 (h.take _) (by rw [HTK.out]; exact m8) (List.all_eq_true.2 fun y hy => List.all_eq_true.1 HLN.out y (List.mem_of_mem_take hy))
      rwa [HTK.out] at this
    have C3 := fin
    have C4 := fun ad c w2 (h : Strs w2 ad M) => rpath_any ad c M w2 h m8 HMN.out
    rw [← HPP.out] at HU2
    generalize pathOf (L.take M.length) = A at C3 HU2
    generalize pathOf M = B at C4 HU2
    have C3 := Lib.hid C3
    have C4 := Lib.hid C4
    clear fin HLN HMN HPP HTK
    by_cases hL0 : L = []
    · subst hL0
      obtain rfl : M = [] := List.length_eq_zero_iff.1 (by simpa using hml)
      go_enter Tryd.func54, Tryd.ntmps54
      go_wp2_with fail
      refine C1.out.mono ?_
      rintro e w1 ⟨ad, c, rfl, hc, hS, h0, b1⟩
      obtain ⟨rfl, rfl⟩ := h0 (by first | rfl | trivial)
      have HS := Lib.hid hS
      have B1 := Lib.hid b1
      clear b1 hS
      go_wp2_with fail
      refine (C2.out _).mono ?_
      rintro e w2 ⟨ad2, c2, rfl, hc2, hS2, h02, b2⟩
      have HS1 := Lib.hid (HS.out.below b2)
      have HS2 := Lib.hid hS2
      have B2 := Lib.hid (B1.out.trans (b2.mono B1.out.size))
      clear b2 hS2 h02
      go_wp2_with fail
      refine (C3.out _ _ _ HS1.out).mono ?_
      rintro e w3 ⟨rfl, rfl⟩
      go_wp2_with fail
      refine (C4.out _ _ _ HS2.out).mono ?_
      rintro e w4 ⟨rfl, rfl⟩
      go_wp2_with fail
      go_ret
      exact ⟨ret_bool (by rw [HU2.out]), B2.out⟩
    · obtain ⟨x, hx⟩ : ∃ x, L[0]? = some x := ⟨_, List.getElem?_eq_getElem (List.length_pos_iff.2 hL0)⟩
      have HX := Lib.hid hx
      clear hx hL0
      go_enter Tryd.func54, Tryd.ntmps54
      go_wp2_with fail
      refine C1.out.mono ?_
      rintro e w1 ⟨ad, c, rfl, hc, hS, h0, b1⟩
      obtain ⟨g, off, rfl, hg, d0⟩ := hS.get _ x HX.out
      have HS := Lib.hid hS
      have B1 := Lib.hid b1
      clear b1 hS h0 d0
      go_wp2_with fail
      refine (C2.out _).mono ?_
      rintro e w2 ⟨ad2, c2, rfl, hc2, hS2, h02, b2⟩
      have HS1 := Lib.hid (HS.out.below b2)
      have HS2 := Lib.hid hS2
      have B2 := Lib.hid (B1.out.trans (b2.mono B1.out.size))
      clear b2 hS2 h02
      go_wp2_with fail
      refine (C3.out _ _ _ HS1.out).mono ?_
      rintro e w3 ⟨rfl, rfl⟩
      go_wp2_with fail
      refine (C4.out _ _ _ HS2.out).mono ?_
      rintro e w4 ⟨rfl, rfl⟩
      go_wp2_with fail
      go_ret
      exact ⟨ret_bool (by rw [HU2.out]), B2.out⟩
end Go.Proofs.YtbkjhogfpcmcbaaDoor
