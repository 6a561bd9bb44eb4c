/- zname: the document's ten, Number; the walks of ZnameJoins, ZnameNumbers. Conditions: the texts have at most 1048576 bytes; the library's variable holds a number. -/
import Derived.Test.YtegpoiepeaofgaaDoorZl
namespace Go.Proofs.YtegpoiepeaofgaaDoor
open Go Go.RowKit Zn
set_option linter.unusedVariables false
set_option linter.unusedSimpArgs false
variable {w w' : World}

theorem rten_any (m : Nat) (w : World) (h3 : m ≤ 9999999999) : Calls Tryd.prog 29 #[.int .i64 m] w fun e w' => e = .returned (.string ⟨(tenR 10 m).toArray⟩) ∧ Below w.heap.size w w' := by
  have HX1 : Hid (Box (w.alloc (.cells #[.int .u8 0, .int .u8 0, .int .u8 0, .int .u8 0, .int .u8 0, .int .u8 0, .int .u8 0, .int .u8 0, .int .u8 0, .int .u8 0] 5)) w.heap.size 5 (tcells m 0).toArray) := (Box.new w 5 (tcells m 0).toArray)
  have A1 := Lib.hid ((Below.refl w.heap.size w).alloc (Nat.le_refl _) (.cells #[.int .u8 0, .int .u8 0, .int .u8 0, .int .u8 0, .int .u8 0, .int .u8 0, .int .u8 0, .int .u8 0, .int .u8 0, .int .u8 0] 5))
  have hmk : (Instr.makeSlice 37 (.int .i64 10) (.int .i64 10)).run Tryd.prog w = .ok (.slice (some ⟨w.heap.size, 0, none⟩) 10 10) (w.alloc (.cells #[.int .u8 0, .int .u8 0, .int .u8 0, .int .u8 0, .int .u8 0, .int .u8 0, .int .u8 0, .int .u8 0, .int .u8 0, .int .u8 0] 5)) := by kernel_rfl
  go_enter Tryd.func29, Tryd.ntmps29
  go_wp2_with fail
  generalize w.alloc (.cells #[.int .u8 0, .int .u8 0, .int .u8 0, .int .u8 0, .int .u8 0, .int .u8 0, .int .u8 0, .int .u8 0, .int .u8 0, .int .u8 0] 5) = w2 at HX1 A1 ⊢
  clear hmk
  go_loopw [0, 4] (fun q i wr => ∃ k : Nat, k ≤ 10 ∧ i = .int .i64 (9 - (k : Int)) ∧ q = .int .i64 ((m / 10 ^ k : Nat) : Int) ∧ Box wr w.heap.size 5 (tcells m k).toArray ∧ Below w.heap.size w wr) (fun _ i _ => (intOf i + 1).toNat)
  case atStart => exact ⟨0, by omega, rfl, by simp, HX1.out, A1.out⟩
  case round =>
    obtain ⟨k, hk, rfl, rfl, hx, hbel⟩ := hrel
    have HX := Lib.hid hx
    have HB := Lib.hid hbel
    obtain ⟨q, hq⟩ : ∃ q, q = m / 10 ^ k := ⟨_, rfl⟩
    have hqm : q ≤ 9999999999 := by rw [hq]; exact Nat.le_trans (Nat.div_le_self _ _) h3
    rw [← hq]
    have HQ := Lib.hid hq
    have hfz : ∀ j, wr.frozen? ⟨w.heap.size, j, none⟩ = false := fun j => hx.frozen j
    clear hx hbel hq
    by_cases hlt : k < 10
    · obtain ⟨v, hv⟩ : ∃ v, (tcells m k)[9 - k]? = some v := ⟨_, List.getElem?_eq_getElem (by rw [tcells_len m k (by omega)]; omega)⟩
      have d0 : wr.cell? ⟨w.heap.size, 9 - k, none⟩ = some v := by rw [HX.out.cell]; simpa using hv
      have f0 := hfz (9 - k)
      have hi0 : (0 : Int) ≤ 9 - (k : Int) := by omega
      have hi1 : 9 - (k : Int) < 10 := by omega
      have hin : (9 - (k : Int)).toNat = 9 - k := by omega
      clear hv hfz
      go_wp2_with fail
      go_roundw
      case rel =>
        refine ⟨k + 1, by omega, by go_num, ?_, ?_, HB.out.setCell (p := ⟨w.heap.size, 9 - k, none⟩) (Nat.le_refl _) _⟩
        · rw [Nat.pow_succ, ← Nat.div_div_eq_div_mul, ← HQ.out, Int.natCast_ediv]; rfl
        · have h2 := HX.out.set (9 - k) (.int .u8 (48 + (q : Int) % 10))
          have h3 := tcells_next m k hlt
          rw [← HQ.out] at h3
          have h4 : ((48 + q % 10 : Nat) : Int) = 48 + (q : Int) % 10 := by omega
          rw [h4] at h3
          rw [← h3, ← List.setIfInBounds_toArray]
          exact h2
      case measure => simp [intOf]; omega
    · obtain rfl : k = 10 := by omega
      obtain ⟨T, hT⟩ : ∃ T, T = tenR 10 m := ⟨_, rfl⟩
      have hcv := run_convert_bytes_back (P := Tryd.prog) wr 37 9 5 ⟨w.heap.size, 0, none⟩ 10 T Tryd.underlying37 Tryd.underlying5 Tryd.underlying9 (fun j hj => by
        rw [Addr.add_lit, HX.out.cell]
        simp only [Nat.zero_add]
        unfold tcells
        rw [← hT]
        simp [hj])
      rw [show T.length = 10 by rw [hT, tenR_len]] at hcv
      have HT := Lib.hid hT
      clear hfz hT
      go_wp2_with fail
      go_ret
      exact ⟨congrArg (fun l : Nm => Ending.returned (Value.string ⟨l.toArray⟩)) HT.out, HB.out⟩
set_option maxHeartbeats 1000000 in
theorem rnumber_any (s : ByteArray) (n : Int) (w : World) (hs : s.size ≤ 2000000) : Calls Tryd.prog 21 #[.string s, .int .i64 n] w (Numbered w s.data.toList n) := by
  have C1 := rvalid_any s w (by omega)
  by_cases h0 : s.data.toList = [47]
  · have HNO := Lib.hid (show numOk s.data.toList n = false by unfold numOk; rw [h0]; rfl)
    have h0' : (s.toList == [47]) = true := by rw [Lib.toList_data, h0]; rfl
    clear h0 C1
    go_enter Tryd.func21, Tryd.ntmps21
    go_wp2_with fail
    exact ret_two rfl rfl (x := .string ⟨#[]⟩) (y := .bool false) rfl rfl (Numbered.no HNO.out (Below.refl _ _))
  have h0' : (s.toList == [47]) = false := by rw [Lib.toList_data]; simpa using h0
  cases hv : validZ s.data.toList
  · have HNO := Lib.hid (show numOk s.data.toList n = false by unfold numOk; rw [hv]; simp)
    rw [hv] at C1
    have C1 := Lib.hid C1
    clear h0 hv
    go_enter Tryd.func21, Tryd.ntmps21
    go_wp2_with fail
    refine C1.out.mono ?_
    rintro e w1 ⟨rfl, b1⟩
    have B1 := Lib.hid b1
    clear b1
    go_wp2_with fail
    exact ret_two rfl rfl (x := .string ⟨#[]⟩) (y := .bool false) rfl rfl (Numbered.no HNO.out B1.out)
  rw [hv] at C1
  have C1 := Lib.hid C1
  by_cases h2 : 0 ≤ n
  rotate_left
  · have HNO := Lib.hid (show numOk s.data.toList n = false by unfold numOk; simp [h2])
    have h2' : n < 0 := by omega
    clear h0 hv h2
    go_enter Tryd.func21, Tryd.ntmps21
    go_wp2_with fail
    refine C1.out.mono ?_
    rintro e w1 ⟨rfl, b1⟩
    have B1 := Lib.hid b1
    clear b1
    go_wp2_with fail
    exact ret_two rfl rfl (x := .string ⟨#[]⟩) (y := .bool false) rfl rfl (Numbered.no HNO.out B1.out)
  by_cases h3 : n ≤ 9999999999
  rotate_left
  · have HNO := Lib.hid (show numOk s.data.toList n = false by unfold numOk; simp [h3])
    have h3' : 9999999999 < n := by omega
    have h2' : decide (n < 0) = false := by rw [decide_eq_false_iff_not]; omega
    clear h0 hv h3
    go_enter Tryd.func21, Tryd.ntmps21
    go_wp2_with fail
    refine C1.out.mono ?_
    rintro e w1 ⟨rfl, b1⟩
    have B1 := Lib.hid b1
    clear b1
    go_wp2_with fail
    exact ret_two rfl rfl (x := .string ⟨#[]⟩) (y := .bool false) rfl rfl (Numbered.no HNO.out B1.out)
  · obtain ⟨m, rfl⟩ := Int.eq_ofNat_of_zero_le h2
    have hok : numOk s.data.toList m = validZ (s.data.toList ++ tenR 10 m) := by
      unfold numOk
      rw [hv, show (s.data.toList == [47]) = false by simpa using h0, Int.toNat_natCast]
      simp [h3]
    have h2d : decide ((m : Int) < 0) = false := by rw [decide_eq_false_iff_not]; omega
    have h3d : decide ((9999999999 : Int) < (m : Int)) = false := by rw [decide_eq_false_iff_not]; omega
    have C2 := fun w1 => rten_any m w1 (by omega)
    obtain ⟨T, hT⟩ : ∃ T, T = tenR 10 m := ⟨_, rfl⟩
    rw [← hT] at C2 hok
    have hTl : T.length ≤ 10 := by rw [hT, tenR_len]; exact Nat.le_refl _
    have hPD : (s ++ (⟨T.toArray⟩ : ByteArray)).data.toList = s.data.toList ++ T := by rw [cat_mk]
    have hPS : (s ++ (⟨T.toArray⟩ : ByteArray)).size ≤ 4194304 := by
      rw [Lib.size_eq, hPD, List.length_append, ← Lib.size_eq]; omega
    have C4 := fun w1 => rvalid_any (s ++ (⟨T.toArray⟩ : ByteArray)) w1 hPS
    rw [hPD, ← hok] at C4
    have HPD := Lib.hid (show (s ++ (⟨T.toArray⟩ : ByteArray)).data.toList = s.data.toList ++ tenR 10 ((m : Int)).toNat by rw [hPD, hT]; rfl)
    have C2 := Lib.hid C2
    cases hz : numOk s.data.toList m
    · rw [hz] at C4
      have C4 := Lib.hid C4
      have HNO := Lib.hid hz
      clear hz hok hPD hPS hT hv h0 h2 h3
      go_enter Tryd.func21, Tryd.ntmps21
      go_wp2_with fail
      refine C1.out.mono ?_
      rintro e w1 ⟨rfl, b1⟩
      have B1 := Lib.hid b1
      clear b1
      go_wp2_with fail
      refine (C2.out _).mono ?_
      rintro e w2 ⟨rfl, b2⟩
      have B2 := Lib.hid (B1.out.trans (b2.mono B1.out.size))
      clear b2
      go_wp2_with fail
      refine (C4.out _).mono ?_
      rintro e w3 ⟨rfl, b3⟩
      have B3 := Lib.hid (B2.out.trans (b3.mono B2.out.size))
      clear b3
      go_wp2_with fail
      exact ret_two rfl rfl (x := .string ⟨#[]⟩) (y := .bool false) rfl rfl (Numbered.no HNO.out B3.out)
    · rw [hz] at C4
      have C4 := Lib.hid C4
      have HY := Lib.hid hz
      clear hz hok hPD hPS hT hv h0 h2 h3
      go_enter Tryd.func21, Tryd.ntmps21
      go_wp2_with fail
      refine C1.out.mono ?_
      rintro e w1 ⟨rfl, b1⟩
      have B1 := Lib.hid b1
      clear b1
      go_wp2_with fail
      refine (C2.out _).mono ?_
      rintro e w2 ⟨rfl, b2⟩
      have B2 := Lib.hid (B1.out.trans (b2.mono B1.out.size))
      clear b2
      go_wp2_with fail
      refine (C4.out _).mono ?_
      rintro e w3 ⟨rfl, b3⟩
      have B3 := Lib.hid (B2.out.trans (b3.mono B2.out.size))
      clear b3
      go_wp2_with fail
      refine (C2.out _).mono ?_
      rintro e w4 ⟨rfl, b4⟩
      have B4 := Lib.hid (B3.out.trans (b4.mono B3.out.size))
      clear b4
      go_wp2_with fail
      exact ret_two rfl rfl (x := .string (s ++ ⟨T.toArray⟩)) (y := .bool true) rfl rfl (Numbered.yes HY.out HPD.out B4.out)

theorem join_facts {l m : Nm} (h : joinOk l m = true) : parentZ (joinZ l m) = l ∧ baseZ (joinZ l m) = m ∧ underZ (joinZ l m) l = true ∧ (joinZ l m).length ≤ 489 := by
  have h2 := h
  unfold joinOk at h2
  simp only [Bool.and_eq_true, decide_eq_true_eq] at h2
  obtain ⟨⟨hv, hn⟩, h8⟩ := h2
  obtain ⟨L, hL⟩ := valid_some hv
  obtain ⟨hp, _, lna⟩ := (names_iff _ _).1 hL
  rw [ls_of hL] at h8
  obtain ⟨_, hJ⟩ := join_yes hL hn h8
  have hJn : namesO (joinZ l m) = some (L ++ [m]) := by rw [hJ]; exact names_path (by simp; omega) (by rw [List.all_append, lna]; simp [hn])
  have hvJ : validZ (joinZ l m) = true := by unfold validZ; rw [hJn]; rfl
  refine ⟨?_, ?_, ?_, path_len hJn⟩
  · unfold parentZ; rw [ls_of hJn, if_neg (by simp), List.dropLast_concat, ← hp]
  · unfold baseZ; rw [ls_of hJn, List.getLastD_concat]
  · unfold underZ; rw [hvJ, hv, ls_of hJn, ls_of hL, List.isPrefixOf_iff_prefix.2 (List.prefix_append _ _)]; rfl
set_option maxHeartbeats 1000000 in
theorem znameJoins_walk (W : World) (hm : Mx W) (s : ByteArray) (hw : s.size ≤ maxLen) (hs : s.size ≤ 1048576) (t : ByteArray) (hwt : t.size ≤ maxLen) (ht : t.size ≤ 1048576) :
    Calls Tryd.prog 7 #[.string s, .string t] W fun e W' => e = .returned (.bool true) ∧ Below W.heap.size W W' := by
  have HM := Lib.hid hm
  have C1 := fun w1 (h : Mx w1) => join_any s t w1 (by omega) (by omega) h
  have C2 := fun w1 => rjoin_any s t w1 (by omega) (by omega)
  unfold JoinedTo at C1 C2
  have hf := @join_facts s.data.toList t.data.toList
  have hz : joinOk s.data.toList t.data.toList = false → joinZ s.data.toList t.data.toList = [] := fun h => by unfold joinZ; rw [h]; rfl
  generalize joinZ s.data.toList t.data.toList = J at C1 C2 hf hz
  cases hj : joinOk s.data.toList t.data.toList
  · obtain rfl := hz hj
    rw [hj] at C1 C2
    have C3 := fun w1 (h : Mx w1) => parent_any ⟨#[]⟩ w1 (by show (0 : Nat) ≤ _; omega) h
    generalize parentZ (⟨#[]⟩ : ByteArray).data.toList = P at C3
    generalize isParent (⟨#[]⟩ : ByteArray).data.toList = ip at C3
    have C1 := Lib.hid C1
    have C2 := Lib.hid C2
    have C3 := Lib.hid C3
    clear hm hw hwt hf hz hj
    go_enter Tryd.func7, Tryd.ntmps7
    go_wp2_with fail
    refine (C1.out _ HM.out).mono ?_
    rintro e w1 ⟨rfl, b1⟩
    have B1 := Lib.hid b1
    clear b1
    go_wp2_with fail
    refine (C2.out _).mono ?_
    rintro e w2 ⟨rfl, b2⟩
    have B2 := Lib.hid (B1.out.trans (b2.mono B1.out.size))
    clear b2
    go_wp2_with fail
    refine (C3.out _ (HM.out.below B2.out)).mono ?_
    rintro e w3 ⟨rfl, b3⟩
    have B3 := Lib.hid (B2.out.trans (b3.mono B2.out.size))
    clear b3
    go_wp2_with fail
    refine (alive_any _ (HM.out.below B3.out)).mono ?_
    rintro e w4 ⟨rfl, b4⟩
    have B4 := Lib.hid (B3.out.trans (b4.mono B3.out.size))
    clear b4
    go_wp2_with fail
    go_ret
    exact ⟨ret_bool (by simp), B4.out⟩
  · obtain ⟨f1, f2, f3, f4⟩ := hf hj
    rw [hj] at C1 C2
    have hJs : (⟨J.toArray⟩ : ByteArray).size ≤ 489 := by show J.toArray.size ≤ _; rw [List.size_toArray]; exact f4
    have C3 := fun w1 (h : Mx w1) => parent_any ⟨J.toArray⟩ w1 (by omega) h
    rw [show (⟨J.toArray⟩ : ByteArray).data.toList = J from rfl, f1] at C3
    generalize isParent J = ip at C3
    have C4 := fun w1 (h : Mx w1) => base_any ⟨J.toArray⟩ w1 (by omega) h
    rw [show (⟨J.toArray⟩ : ByteArray).data.toList = J from rfl, f2] at C4
    have C5 := fun w1 (h : Mx w1) => under_any ⟨J.toArray⟩ s w1 (by omega) (by omega) h
    rw [show (⟨J.toArray⟩ : ByteArray).data.toList = J from rfl, f3] at C5
    have C1 := Lib.hid C1
    have C2 := Lib.hid C2
    have C3 : Hid (∀ w1 (h : Mx w1), Calls Tryd.prog 13 #[.string ⟨J.toArray⟩] w1 fun e w' => e = .returned (.tuple #[.string s, .bool ip]) ∧ Below w1.heap.size w1 w') := C3
    have C4 : Hid (∀ w1 (h : Mx w1), Calls Tryd.prog 19 #[.string ⟨J.toArray⟩] w1 fun e w' => e = .returned (.string t) ∧ Below w1.heap.size w1 w') := C4
    have C5 := Lib.hid C5
    clear hm hw hwt hf hz hj f1 f2 f3 f4 hJs
    go_enter Tryd.func7, Tryd.ntmps7
    go_wp2_with fail
    refine (C1.out _ HM.out).mono ?_
    rintro e w1 ⟨rfl, b1⟩
    have B1 := Lib.hid b1
    clear b1
    go_wp2_with fail
    refine (C2.out _).mono ?_
    rintro e w2 ⟨rfl, b2⟩
    have B2 := Lib.hid (B1.out.trans (b2.mono B1.out.size))
    clear b2
    go_wp2_with fail
    refine (C3.out _ (HM.out.below B2.out)).mono ?_
    rintro e w3 ⟨rfl, b3⟩
    have B3 := Lib.hid (B2.out.trans (b3.mono B2.out.size))
    clear b3
    go_wp2_with fail
    refine (alive_any _ (HM.out.below B3.out)).mono ?_
    rintro e w4 ⟨rfl, b4⟩
    have B4 := Lib.hid (B3.out.trans (b4.mono B3.out.size))
    clear b4
    go_wp2_with fail
    refine (C4.out _ (HM.out.below B4.out)).mono ?_
    rintro e w5 ⟨rfl, b5⟩
    have B5 := Lib.hid (B4.out.trans (b5.mono B4.out.size))
    clear b5
    go_wp2_with fail
    refine (C5.out _ (HM.out.below B5.out)).mono ?_
    rintro e w6 ⟨rfl, b6⟩
    have B6 := Lib.hid (B5.out.trans (b6.mono B5.out.size))
    clear b6
    go_wp2_with fail
    go_ret
    exact ⟨ret_bool (by simp), B6.out⟩
set_option maxHeartbeats 1000000 in
theorem znameNumbers_walk (W : World) (hm : Mx W) (s : ByteArray) (hw : s.size ≤ maxLen) (hs : s.size ≤ 1048576) (n : Int) (hn : (Lit.int .i64 n).wf = true) :
    Calls Tryd.prog 6 #[.string s, .int .i64 n] W fun e W' => e = .returned (.bool true) ∧ Below W.heap.size W W' := by
  have HM := Lib.hid hm
  have C1 := fun w1 (h : Mx w1) => number_any s n w1 (by omega) h
  have C2 := fun w1 => rnumber_any s n w1 (by omega)
  unfold Numbered at C1 C2
  cases hj : numOk s.data.toList n
  · rw [hj, show numZ s.data.toList n = [] by unfold numZ; rw [hj]; rfl] at C1 C2
    have C1 := Lib.hid C1
    have C2 := Lib.hid C2
    clear hm hw hn hj
    go_enter Tryd.func6, Tryd.ntmps6
    go_wp2_with fail
    refine (C1.out _ HM.out).mono ?_
    rintro e w1 ⟨rfl, b1⟩
    have B1 := Lib.hid b1
    clear b1
    go_wp2_with fail
    refine (C2.out _).mono ?_
    rintro e w2 ⟨rfl, b2⟩
    have B2 := Lib.hid (B1.out.trans (b2.mono B1.out.size))
    clear b2
    go_wp2_with fail
    refine (cut_empty _).mono ?_
    rintro e w3 ⟨rfl, b3⟩
    have B3 := Lib.hid (B2.out.trans (b3.mono B2.out.size))
    clear b3
    go_wp2_with fail
    refine (alive_any _ (HM.out.below B3.out)).mono ?_
    rintro e w4 ⟨rfl, b4⟩
    have B4 := Lib.hid (B3.out.trans (b4.mono B3.out.size))
    clear b4
    go_wp2_with fail
    go_ret
    exact ⟨ret_bool (by simp), B4.out⟩
  · have hj2 := hj
    unfold numOk at hj2
    simp only [Bool.and_eq_true, decide_eq_true_eq, Bool.not_eq_true', beq_eq_false_iff_ne] at hj2
    obtain ⟨⟨⟨⟨j1, j2⟩, j3⟩, j4⟩, j5⟩ := hj2
    obtain ⟨m, rfl⟩ := Int.eq_ofNat_of_zero_le j3
    rw [Int.toNat_natCast] at j5
    have hNZ : numZ s.data.toList m = s.data.toList ++ tenR 10 m := by unfold numZ; rw [if_pos hj]; rfl
    have C3 := fun w1 (h : Mx w1) => cut_num ⟨(numZ s.data.toList m).toArray⟩ s.data.toList m w1 h hNZ (by rw [← Lib.size_eq]; omega) j1 j2 (by show validZ (numZ s.data.toList m) = true; rw [hNZ]; exact j5) (by omega)
    rw [hj] at C1 C2
    generalize numZ s.data.toList m = A at C1 C2 C3
    have C1 := Lib.hid C1
    have C2 := Lib.hid C2
    have C3 : Hid (∀ w1 (h : Mx w1), Calls Tryd.prog 22 #[.string ⟨A.toArray⟩] w1 fun e w' => e = .returned (.tuple #[.string s, .int .i64 m, .bool true]) ∧ Below w1.heap.size w1 w') := C3
    clear hm hw hn hj j1 j2 j3 j4 j5 hNZ
    go_enter Tryd.func6, Tryd.ntmps6
    go_wp2_with fail
    refine (C1.out _ HM.out).mono ?_
    rintro e w1 ⟨rfl, b1⟩
    have B1 := Lib.hid b1
    clear b1
    go_wp2_with fail
    refine (C2.out _).mono ?_
    rintro e w2 ⟨rfl, b2⟩
    have B2 := Lib.hid (B1.out.trans (b2.mono B1.out.size))
    clear b2
    go_wp2_with fail
    refine (C3.out _ (HM.out.below B2.out)).mono ?_
    rintro e w3 ⟨rfl, b3⟩
    have B3 := Lib.hid (B2.out.trans (b3.mono B2.out.size))
    clear b3
    go_wp2_with fail
    refine (alive_any _ (HM.out.below B3.out)).mono ?_
    rintro e w4 ⟨rfl, b4⟩
    have B4 := Lib.hid (B3.out.trans (b4.mono B3.out.size))
    clear b4
    go_wp2_with fail
    go_ret
    exact ⟨ret_bool (by simp), B4.out⟩
end Go.Proofs.YtegpoiepeaofgaaDoor
