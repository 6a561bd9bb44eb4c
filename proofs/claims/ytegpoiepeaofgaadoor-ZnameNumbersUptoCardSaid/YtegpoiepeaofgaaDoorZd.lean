/- zname: Join, Under. Conditions: the texts have at most 2000000 bytes; the library's variable holds a number. -/
import Derived.Test.YtegpoiepeaofgaaDoorZc
namespace Go.Proofs.YtegpoiepeaofgaaDoor
open Go Go.RowKit Zn
set_option linter.unusedVariables false
set_option linter.unusedSimpArgs false
variable {w w' : World}

def JoinedTo (w : World) (l m : Nm) (e : Ending) (w' : World) : Prop := e = .returned (.tuple #[.string ⟨(joinZ l m).toArray⟩, .bool (joinOk l m)]) ∧ Below w.heap.size w w'
theorem JoinedTo.no {l m : Nm} (h : joinOk l m = false) (hb : Below w.heap.size w w') : JoinedTo w l m (.returned (.tuple #[.string ⟨#[]⟩, .bool false])) w' := by
  refine ⟨?_, hb⟩
  unfold joinZ; rw [h]; rfl
theorem JoinedTo.yes {l m : Nm} {p : ByteArray} (h : joinOk l m = true) (hp : p.data.toList = pathOf (lsOf l ++ [m])) (hb : Below w.heap.size w w') : JoinedTo w l m (.returned (.tuple #[.string p, .bool true])) w' := by
  refine ⟨?_, hb⟩
  unfold joinZ; rw [h, if_pos rfl, ← hp]
set_option maxHeartbeats 1000000 in
theorem join_any (s t : ByteArray) (w : World) (hs : s.size ≤ 2000000) (ht : t.size ≤ 2000000) (hm : Mx w) : Calls Tryd.prog 23 #[.string s, .string t] w (JoinedTo w s.data.toList t.data.toList) := by
  have C1 := valid_any s w (by omega) hm
  have HM := Lib.hid hm
  clear hm
  cases hv : validZ s.data.toList
  · have HNO := Lib.hid (show joinOk s.data.toList t.data.toList = false by unfold joinOk; rw [hv]; rfl)
    rw [hv] at C1
    have C1 := Lib.hid C1
    clear hv
    go_enter Tryd.func23, Tryd.ntmps23
    go_wp2_with fail
    refine C1.out.mono ?_
    rintro e w1 ⟨rfl, b1⟩
    have B1 := Lib.hid b1
    clear b1
    go_wp2_with fail
    exact ret_two rfl rfl (x := .string ⟨#[]⟩) (y := .bool false) rfl rfl (JoinedTo.no HNO.out B1.out)
  obtain ⟨L, hL⟩ : ∃ L, namesO s.data.toList = some L := by unfold validZ at hv; exact Option.isSome_iff_exists.1 hv
  rw [hv] at C1
  have C1 := Lib.hid C1
  by_cases hf : free t.data.toList
  rotate_left
  · have HNO := Lib.hid (join_slash (p := s.data.toList) hf)
    have hix : ¬ Lib.indexByte t.data.toList 47 = -1 := fun h => hf ((index_free _).1 h)
    have hge := Lib.indexByte_ge t.data.toList 47
    have C2 := Lib.hid (fun w1 => Tryd.strings_IndexByte t 47 w1)
    rw [show (47 : Int).toNat.toUInt8 = 47 from rfl] at C2
    obtain ⟨ix, hix2⟩ : ∃ ix, ix = Lib.indexByte t.data.toList 47 := ⟨_, rfl⟩
    rw [← hix2] at C2 hix hge
    have hge2 : 0 ≤ ix := by omega
    clear hv hL hf hix2 hix hge
    go_enter Tryd.func23, Tryd.ntmps23
    go_wp2_with fail
    refine C1.out.mono ?_
    rintro e w1 ⟨rfl, b1⟩
    have B1 := Lib.hid b1
    clear b1
    go_wp2_with fail
    refine (C2.out _).mono ?_
    rintro e w2 ⟨rfl, rfl⟩
    go_wp2_with fail
    exact ret_two rfl rfl (x := .string ⟨#[]⟩) (y := .bool false) rfl rfl (JoinedTo.no HNO.out B1.out)
  · have hix : Lib.indexByte t.data.toList 47 = -1 := (index_free _).2 hf
    have C2 := Lib.hid (fun w1 => Tryd.strings_IndexByte t 47 w1)
    rw [show (47 : Int).toNat.toUInt8 = 47 from rfl, hix] at C2
    have C3 := Lib.hid (fun w1 => Tryd.strings_TrimSuffix s slash w1 (by omega))
    have hlf : flat L = Lib.trimSuffix s.data.toList [47] := (trim_path hL).symm
    rw [show slash.data.toList = [47] from rfl, ← hlf] at C3
    unfold slash at C3
    have hpl := path_len hL
    have hfl : (flat L).length ≤ s.data.toList.length := by rw [hlf]; unfold Lib.trimSuffix; split <;> simp
    have hjv := join_valid hL hf
    obtain ⟨F, hF⟩ : ∃ F, F = flat L := ⟨_, rfl⟩
    have HP := Lib.hid (show flat (L ++ [t.data.toList]) = F ++ 47 :: t.data.toList by rw [hF, flat_app]; simp [flat])
    have hFl : F.length ≤ 489 := by rw [hF]; omega
    rw [← hF] at C3
    have HJV := Lib.hid hjv
    have HPO := Lib.hid (show pathOf (lsOf s.data.toList ++ [t.data.toList]) = flat (L ++ [t.data.toList]) by unfold lsOf; rw [hL, path_of_ne (by simp)]; rfl)
    obtain ⟨P, hP⟩ : ∃ P, P = flat (L ++ [t.data.toList]) := ⟨_, rfl⟩
    rw [← hP] at HJV HPO HP
    have hPD : ((⟨F.toArray⟩ : ByteArray) ++ ⟨#[47]⟩ ++ t).data.toList = P := by
      rw [HP.out, cat_mk, cat_mk]; simp
    have hPS : ((⟨F.toArray⟩ : ByteArray) ++ ⟨#[47]⟩ ++ t).size ≤ 4194304 := by
      rw [Lib.size_eq, hPD, HP.out]
      have := Lib.size_eq t
      simp only [List.length_append, List.length_cons]
      omega
    have C4 := fun w1 (h : Mx w1) => valid_any ((⟨F.toArray⟩ : ByteArray) ++ ⟨#[47]⟩ ++ t) w1 hPS h
    rw [hPD] at C4
    have HPD := Lib.hid hPD
    have hQ : (((⟨F.toArray⟩ : ByteArray) ++ ⟨#[47]⟩ ++ t).toList == [47]) = (P == [47]) := by rw [Lib.toList_data, hPD]
    clear hv hL hf hix hlf hpl hfl hjv hF hP hPD hPS
    cases hq : (P == [47])
    · rw [hq] at hQ HJV
      cases hz : validZ P
      · have HNO := Lib.hid (show joinOk s.data.toList t.data.toList = false by rw [← HJV.out, hz]; rfl)
        rw [hz] at C4
        have C4 := Lib.hid C4
        clear HJV hz hq
        go_enter Tryd.func23, Tryd.ntmps23
        go_wp2_with fail
        refine C1.out.mono ?_
        rintro e w1 ⟨rfl, b1⟩
        have B1 := Lib.hid b1
        have M1 := Lib.hid (HM.out.below b1)
        clear b1
        go_wp2_with fail
        refine (C2.out _).mono ?_
        rintro e w2 ⟨rfl, rfl⟩
        go_wp2_with fail
        refine (C3.out _).mono ?_
        rintro e w3 ⟨rfl, rfl⟩
        go_wp2_with fail
        refine (C4.out _ M1.out).mono ?_
        rintro e w4 ⟨rfl, b4⟩
        have B4 := Lib.hid (B1.out.trans (b4.mono B1.out.size))
        clear b4
        go_wp2_with fail
        exact ret_two rfl rfl (x := .string ⟨#[]⟩) (y := .bool false) rfl rfl (JoinedTo.no HNO.out B4.out)
      · have HYES := Lib.hid (show joinOk s.data.toList t.data.toList = true by rw [← HJV.out, hz]; rfl)
        rw [hz] at C4
        have C4 := Lib.hid C4
        clear HJV hz hq
        go_enter Tryd.func23, Tryd.ntmps23
        go_wp2_with fail
        refine C1.out.mono ?_
        rintro e w1 ⟨rfl, b1⟩
        have B1 := Lib.hid b1
        have M1 := Lib.hid (HM.out.below b1)
        clear b1
        go_wp2_with fail
        refine (C2.out _).mono ?_
        rintro e w2 ⟨rfl, rfl⟩
        go_wp2_with fail
        refine (C3.out _).mono ?_
        rintro e w3 ⟨rfl, rfl⟩
        go_wp2_with fail
        refine (C4.out _ M1.out).mono ?_
        rintro e w4 ⟨rfl, b4⟩
        have B4 := Lib.hid (B1.out.trans (b4.mono B1.out.size))
        clear b4
        go_wp2_with fail
        exact ret_two rfl rfl (x := .string ((⟨F.toArray⟩ : ByteArray) ++ ⟨#[47]⟩ ++ t)) (y := .bool true) rfl rfl (JoinedTo.yes HYES.out (by rw [HPO.out]; exact HPD.out) B4.out)
    · rw [hq] at hQ HJV
      have HNO := Lib.hid (show joinOk s.data.toList t.data.toList = false by rw [← HJV.out]; simp)
      clear HJV hq C4
      go_enter Tryd.func23, Tryd.ntmps23
      go_wp2_with fail
      refine C1.out.mono ?_
      rintro e w1 ⟨rfl, b1⟩
      have B1 := Lib.hid b1
      clear b1
      go_wp2_with fail
      refine (C2.out _).mono ?_
      rintro e w2 ⟨rfl, rfl⟩
      go_wp2_with fail
      refine (C3.out _).mono ?_
      rintro e w3 ⟨rfl, rfl⟩
      go_wp2_with fail
      exact ret_two rfl rfl (x := .string ⟨#[]⟩) (y := .bool false) rfl rfl (JoinedTo.no HNO.out B1.out)

/-- do the first k names agree? -/
theorem pre_step {L M : List Nm} {k : Nat} {x y : Nm} (h : (M.take k).isPrefixOf L = true) (hx : L[k]? = some x) (hy : M[k]? = some y) : (M.take (k + 1)).isPrefixOf L = (x == y) := by
  rw [Bool.eq_iff_iff, beq_iff_eq, List.isPrefixOf_iff_prefix, List.take_add_one, hy]
  rw [List.isPrefixOf_iff_prefix] at h
  obtain ⟨r, hr⟩ := h
  have hk : (M.take k).length = k := by rw [List.length_take]; have := (List.getElem?_eq_some_iff.1 hy).1; omega
  have hx2 : r[0]? = some x := by rw [← hr, List.getElem?_append_right (by omega), hk, Nat.sub_self] at hx; exact hx
  cases r with
  | nil => cases hx2
  | cons z r =>
    obtain rfl : z = x := by simpa using hx2
    rw [← hr]
    simp only [Option.toList_some]
    rw [List.prefix_append_right_inj]
    constructor
    · rintro ⟨q, hq⟩; exact (List.cons.inj hq).1.symm
    · rintro rfl; exact ⟨r, rfl⟩
theorem pre_no {L M : List Nm} {k : Nat} (h : (M.take k).isPrefixOf L = false) : M.isPrefixOf L = false := by
  rw [Bool.eq_false_iff] at h ⊢
  intro h2
  apply h
  rw [List.isPrefixOf_iff_prefix] at h2 ⊢
  exact (List.take_prefix k M).trans h2
theorem pre_len {L M : List Nm} (h : L.length < M.length) : M.isPrefixOf L = false := by
  rw [Bool.eq_false_iff, ne_eq, List.isPrefixOf_iff_prefix]
  intro h2; have := h2.length_le; omega
set_option maxHeartbeats 1000000 in
theorem under_any (s t : ByteArray) (w : World) (hs : s.size ≤ 2000000) (ht : t.size ≤ 2000000) (hm : Mx w) :
    Calls Tryd.prog 11 #[.string s, .string t] w fun e w' => e = .returned (.bool (underZ s.data.toList t.data.toList)) ∧ Below w.heap.size w w' := by
  have C1 := names_any s w (by omega) hm
  have C2 := fun w1 (h : Mx w1) => names_any t w1 (by omega) h
  unfold Named at C1 C2
  have hll := ls_len s.data.toList
  have hml := ls_len t.data.toList
  have HM := Lib.hid hm
  have HU := Lib.hid (show underZ s.data.toList t.data.toList = (validZ s.data.toList && validZ t.data.toList && (lsOf t.data.toList).isPrefixOf (lsOf s.data.toList)) from rfl)
  obtain ⟨L, hL⟩ : ∃ L, L = lsOf s.data.toList := ⟨_, rfl⟩
  obtain ⟨M, hM⟩ : ∃ M, M = lsOf t.data.toList := ⟨_, rfl⟩
  rw [← hL, ← hM] at HU
  rw [← hL] at C1 hll
  rw [← hM] at C2 hml
  clear hm hL hM
  cases hv : validZ s.data.toList
  · rw [hv] at C1 HU
    have C1 := Lib.hid C1
    have C2 := Lib.hid C2
    have HNO := Lib.hid (show underZ s.data.toList t.data.toList = false from HU.out)
    clear hv HU
    go_enter Tryd.func11, Tryd.ntmps11
    go_wp2_with fail
    refine C1.out.mono ?_
    rintro e w1 ⟨⟨ad, c, rfl, hc, hS⟩, b1⟩
    have B1 := Lib.hid b1
    have M1 := Lib.hid (HM.out.below b1)
    clear hS b1
    go_wp2_with fail
    refine (C2.out _ M1.out).mono ?_
    rintro e w2 ⟨⟨ad2, c2, rfl, hc2, hS2⟩, b2⟩
    have B2 := Lib.hid (B1.out.trans (b2.mono B1.out.size))
    clear hS2 b2
    go_wp2_with fail
    go_ret
    exact ⟨ret_bool HNO.out.symm, B2.out⟩
  cases hv2 : validZ t.data.toList
  · rw [hv] at C1 HU
    rw [hv2] at HU C2
    have C1 := Lib.hid C1
    have C2 := Lib.hid C2
    have HNO := Lib.hid (show underZ s.data.toList t.data.toList = false from HU.out)
    clear hv HU hv2
    go_enter Tryd.func11, Tryd.ntmps11
    go_wp2_with fail
    refine C1.out.mono ?_
    rintro e w1 ⟨⟨ad, c, rfl, hc, hS⟩, b1⟩
    have B1 := Lib.hid b1
    have M1 := Lib.hid (HM.out.below b1)
    clear hS b1
    go_wp2_with fail
    refine (C2.out _ M1.out).mono ?_
    rintro e w2 ⟨⟨ad2, c2, rfl, hc2, hS2⟩, b2⟩
    have B2 := Lib.hid (B1.out.trans (b2.mono B1.out.size))
    clear hS2 b2
    go_wp2_with fail
    go_ret
    exact ⟨ret_bool HNO.out.symm, B2.out⟩
  rw [hv] at C1 HU
  rw [hv2] at HU C2
  have C1 := Lib.hid C1
  have C2 := Lib.hid C2
  rw [Bool.and_self, Bool.true_and] at HU
  clear hv hv2
  by_cases hlm : L.length < M.length
  · have HNO := Lib.hid (show underZ s.data.toList t.data.toList = false by rw [HU.out, pre_len hlm])
    clear HU
    go_enter Tryd.func11, Tryd.ntmps11
    go_wp2_with fail
    refine C1.out.mono ?_
    rintro e w1 ⟨⟨ad, c, rfl, hc, hS⟩, b1⟩
    have B1 := Lib.hid b1
    have M1 := Lib.hid (HM.out.below b1)
    clear hS b1
    go_wp2_with fail
    refine (C2.out _ M1.out).mono ?_
    rintro e w2 ⟨⟨ad2, c2, rfl, hc2, hS2⟩, b2⟩
    have B2 := Lib.hid (B1.out.trans (b2.mono B1.out.size))
    clear hS2 b2
    go_wp2_with fail
    go_ret
    exact ⟨ret_bool HNO.out.symm, B2.out⟩
  · have hlm' : decide (L.length < M.length) = false := by simpa using hlm
    go_enter Tryd.func11, Tryd.ntmps11
    go_wp2_with fail
    refine C1.out.mono ?_
    rintro e w1 ⟨⟨ad, c, rfl, hc, hS⟩, b1⟩
    have B1 := Lib.hid b1
    have M1 := Lib.hid (HM.out.below b1)
    have HS := Lib.hid hS
    clear hS b1
    go_wp2_with fail
    refine (C2.out _ M1.out).mono ?_
    rintro e w2 ⟨⟨ad2, c2, rfl, hc2, hS2⟩, b2⟩
    have B2 := Lib.hid (B1.out.trans (b2.mono B1.out.size))
    have HL := Lib.hid (HS.out.below b2)
    have HK := Lib.hid hS2
    clear hS2 b2 HS
    go_wp2_with fail
    go_loop [9, 10, 36] (fun _ _ i => ∃ k : Nat, k ≤ M.length ∧ i = .int .i64 k ∧ (M.take k).isPrefixOf L = true) (fun _ _ i => M.length - (intOf i).toNat)
    case atStart => exact ⟨0, Nat.zero_le _, rfl, rfl⟩
    case round =>
      obtain ⟨k, hk, rfl, hpr⟩ := hrel
      have HP := Lib.hid hpr
      clear hpr
      by_cases hlt : k < M.length
      · obtain ⟨y, hy⟩ : ∃ y, M[k]? = some y := ⟨_, List.getElem?_eq_getElem hlt⟩
        obtain ⟨x, hx⟩ : ∃ x, L[k]? = some x := ⟨_, List.getElem?_eq_getElem (by omega)⟩
        obtain ⟨g, off, rfl, hg, d0⟩ := HL.out.get k x hx
        obtain ⟨g2, off2, rfl, hg2, e0⟩ := HK.out.get k y hy
        have HN := Lib.hid (pre_step HP.out hx hy)
        clear hx hy
        cases hxy : (x == y)
        · rw [hxy] at HN
          have HNO := Lib.hid (show underZ s.data.toList t.data.toList = false by rw [HU.out]; exact pre_no HN.out)
          clear HN
          go_wp2_with fail
          go_ret
          exact ⟨ret_bool HNO.out.symm, B2.out⟩
        · rw [hxy] at HN
          go_wp2_with fail
          go_round
          case rel => exact ⟨k + 1, by omega, by go_num, HN.out⟩
          case measure => simp [intOf]; omega
      · obtain rfl : k = M.length := by omega
        rw [List.take_length] at HP
        go_wp2_with fail
        go_ret
        exact ⟨ret_bool (by rw [HU.out]; exact HP.out.symm), B2.out⟩
end Go.Proofs.YtegpoiepeaofgaaDoor
