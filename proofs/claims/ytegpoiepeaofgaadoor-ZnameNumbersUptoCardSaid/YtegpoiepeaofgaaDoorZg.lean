/- The walks of ZnameRises, ZnameDeep. Conditions: the text has at most 1048576 bytes; the library's variable holds a number. -/
import Derived.Test.YtegpoiepeaofgaaDoorZf
namespace Go.Proofs.YtegpoiepeaofgaaDoor
open Go Go.RowKit Zn
set_option linter.unusedVariables false
set_option linter.unusedSimpArgs false
variable {w w' : World}

theorem num_less {l : Nm} {n m : Int} (h1 : numOk l n = true) (h2 : numOk l m = true) : Go.Op.bytesLess (numZ l n) (numZ l m) = decide (n < m) := by
  unfold numZ
  rw [if_pos h1, if_pos h2, less_app]
  unfold numOk at h1 h2
  simp only [Bool.and_eq_true, decide_eq_true_eq] at h1 h2
  obtain ⟨⟨⟨_, a0⟩, a1⟩, _⟩ := h1
  obtain ⟨⟨⟨_, b0⟩, b1⟩, _⟩ := h2
  rw [less_ten 10 _ _ (by omega) (by omega)]
  congr 1; apply propext; omega
theorem znameRises_walk (W : World) (hm : Mx W) (s : ByteArray) (hw : s.size ≤ maxLen) (hs : s.size ≤ 1048576) (n : Int) (hn : (Lit.int .i64 n).wf = true) (m : Int) (hmm : (Lit.int .i64 m).wf = true) :
    Calls Tryd.prog 3 #[.string s, .int .i64 n, .int .i64 m] W fun e W' => e = .returned (.bool true) ∧ Below W.heap.size W W' := by
  have C1 := number_any s n W (by omega) hm
  have C2 := fun w1 (h : Mx w1) => number_any s m w1 (by omega) h
  unfold Numbered at C1 C2
  have HM := Lib.hid hm
  have HL := Lib.hid (@num_less s.data.toList n m)
  obtain ⟨A, hA⟩ : ∃ A, A = numZ s.data.toList n := ⟨_, rfl⟩
  obtain ⟨B, hB⟩ : ∃ B, B = numZ s.data.toList m := ⟨_, rfl⟩
  rw [← hA] at C1 HL
  rw [← hB] at C2 HL
  clear hm hn hmm hw hA hB
  cases h1 : numOk s.data.toList n
  · rw [h1] at C1
    have C1 := Lib.hid C1
    have C2 := Lib.hid C2
    clear h1 HL
    go_enter Tryd.func3, Tryd.ntmps3
    go_wp2_with fail
    refine C1.out.mono ?_
    rintro e w1 ⟨rfl, b1⟩
    have B1 := Lib.hid b1
    clear b1
    go_wp2_with fail
    refine (C2.out _ (HM.out.below B1.out)).mono ?_
    rintro e w2 ⟨rfl, b2⟩
    have B2 := Lib.hid (B1.out.trans (b2.mono B1.out.size))
    clear b2
    go_wp2_with fail
    refine (alive_any _ (HM.out.below B2.out)).mono ?_
    rintro e w3 ⟨rfl, b3⟩
    have B3 := Lib.hid (B2.out.trans (b3.mono B2.out.size))
    clear b3
    go_wp2_with fail
    go_ret
    exact ⟨rfl, B3.out⟩
  cases h2 : numOk s.data.toList m
  · rw [h1] at C1
    rw [h2] at C2
    have C1 := Lib.hid C1
    have C2 := Lib.hid C2
    clear h1 h2 HL
    go_enter Tryd.func3, Tryd.ntmps3
    go_wp2_with fail
    refine C1.out.mono ?_
    rintro e w1 ⟨rfl, b1⟩
    have B1 := Lib.hid b1
    clear b1
    go_wp2_with fail
    refine (C2.out _ (HM.out.below B1.out)).mono ?_
    rintro e w2 ⟨rfl, b2⟩
    have B2 := Lib.hid (B1.out.trans (b2.mono B1.out.size))
    clear b2
    go_wp2_with fail
    refine (alive_any _ (HM.out.below B2.out)).mono ?_
    rintro e w3 ⟨rfl, b3⟩
    have B3 := Lib.hid (B2.out.trans (b3.mono B2.out.size))
    clear b3
    go_wp2_with fail
    go_ret
    exact ⟨rfl, B3.out⟩
  · have hl := HL.out h1 h2
    rw [h1] at C1
    rw [h2] at C2
    have C1 := Lib.hid C1
    have C2 := Lib.hid C2
    obtain ⟨b, hb⟩ : ∃ b, b = decide (n < m) := ⟨_, rfl⟩
    rw [← hb] at hl
    have HLL := Lib.hid hl
    have HBB := Lib.hid hb
    clear h1 h2 HL hl hb
    go_enter Tryd.func3, Tryd.ntmps3
    go_wp2_with fail
    refine C1.out.mono ?_
    rintro e w1 ⟨rfl, b1⟩
    have B1 := Lib.hid b1
    clear b1
    go_wp2_with fail
    refine (C2.out _ (HM.out.below B1.out)).mono ?_
    rintro e w2 ⟨rfl, b2⟩
    have B2 := Lib.hid (B1.out.trans (b2.mono B1.out.size))
    clear b2
    go_wp2_with fail
    refine (alive_any _ (HM.out.below B2.out)).mono ?_
    rintro e w3 ⟨rfl, b3⟩
    have B3 := Lib.hid (B2.out.trans (b3.mono B2.out.size))
    clear b3
    go_wp2_with fail
    go_ret
    exact ⟨ret_bool (by simp [Lib.toList_data, HLL.out, HBB.out]), B3.out⟩

theorem ls_of {l : Nm} {L : List Nm} (h : namesO l = some L) : lsOf l = L := by unfold lsOf; rw [h]; rfl
theorem deep_facts {l : Nm} (h : isParent l = true) : ∃ k : Nat, k ≤ 8 ∧ joinOk (parentZ l) (baseZ l) = true ∧ joinZ (parentZ l) (baseZ l) = l ∧ depthZ l = (k : Int) + 1 ∧ depthZ (parentZ l) = k ∧
    underZ l (parentZ l) = true ∧ underZ (parentZ l) l = false ∧ (parentZ l).length ≤ 489 ∧ (baseZ l).length ≤ 60 := by
  unfold isParent at h
  have h0 : lsOf l ≠ [] := by intro e; rw [e] at h; cases h
  obtain ⟨L, hL⟩ : ∃ L, namesO l = some L := by
    cases hn : namesO l with
    | none => unfold lsOf at h0; rw [hn] at h0; exact absurd rfl h0
    | some L => exact ⟨L, rfl⟩
  have hl := ls_of hL
  rw [hl] at h0
  obtain ⟨hp, h8, hall⟩ := (names_iff l L).1 hL
  obtain ⟨I, x, hIx⟩ : ∃ I x, L = I ++ [x] := ⟨L.dropLast, L.getLast h0, (List.dropLast_concat_getLast h0).symm⟩
  have hI : I.all nameB = true ∧ nameB x = true := by rw [hIx, List.all_append] at hall; simpa using hall
  have hIl : I.length ≤ 7 := by rw [hIx] at h8; simp at h8; omega
  have hpar : parentZ l = pathOf I := by unfold parentZ; rw [hl, if_neg h0, hIx, List.dropLast_concat]
  have hbase : baseZ l = x := by unfold baseZ; rw [hl, hIx, List.getLastD_concat]
  have hnp : namesO (parentZ l) = some I := by rw [hpar]; exact names_path (by omega) hI.1
  have hlp := ls_of hnp
  have hv : validZ l = true := by unfold validZ; rw [hL]; rfl
  have hvp : validZ (parentZ l) = true := by unfold validZ; rw [hnp]; rfl
  have hjo : joinOk (parentZ l) (baseZ l) = true := by unfold joinOk; rw [hvp, hbase, hI.2, hlp]; simp; omega
  refine ⟨I.length, by omega, hjo, ?_, ?_, ?_, ?_, ?_, path_len hnp, ?_⟩
  · unfold joinZ; rw [hjo, if_pos rfl, hlp, hbase, ← hIx, ← hp]
  · unfold depthZ; rw [hL, hIx]; simp
  · unfold depthZ; rw [hnp]
  · unfold underZ; rw [hv, hvp, hl, hlp, hIx, List.isPrefixOf_iff_prefix.2 (List.prefix_append _ _)]; rfl
  · unfold underZ; rw [hv, hvp, hl, hlp, hIx, pre_len (by simp)]; rfl
  · rw [hbase]; exact (name_len hI.2).2
set_option maxHeartbeats 1000000 in
theorem znameDeep_walk (W : World) (hm : Mx W) (s : ByteArray) (hw : s.size ≤ maxLen) (hs : s.size ≤ 1048576) :
    Calls Tryd.prog 8 #[.string s] W fun e W' => e = .returned (.bool true) ∧ Below W.heap.size W W' := by
  have C1 := parent_any s W (by omega) hm
  have HM := Lib.hid hm
  have HPE := Lib.hid (show isParent s.data.toList = false → parentZ s.data.toList = [] from fun h => by
    unfold parentZ; rw [if_pos]; unfold isParent at h; simpa using h)
  clear hw
  cases h1 : isParent s.data.toList
  · rw [h1, HPE.out h1] at C1
    have C1 := Lib.hid C1
    clear h1 hm HPE
    go_enter Tryd.func8, Tryd.ntmps8
    go_wp2_with fail
    refine C1.out.mono ?_
    rintro e w1 ⟨rfl, b1⟩
    have B1 := Lib.hid b1
    clear b1
    go_wp2_with fail
    refine (alive_any _ (HM.out.below B1.out)).mono ?_
    rintro e w3 ⟨rfl, b3⟩
    have B3 := Lib.hid (B1.out.trans (b3.mono B1.out.size))
    clear b3
    go_wp2_with fail
    go_ret
    exact ⟨ret_bool (by simp), B3.out⟩
  · rw [h1] at C1
    obtain ⟨k, hk, f1, f2, f3, f4, f5, f6, f7, f8⟩ := deep_facts h1
    obtain ⟨P, hP⟩ : ∃ P, P = parentZ s.data.toList := ⟨_, rfl⟩
    obtain ⟨x, hx⟩ : ∃ x, x = baseZ s.data.toList := ⟨_, rfl⟩
    have C2 := fun w1 (h : Mx w1) => base_any s w1 (by omega) h
    rw [← hP] at C1 f1 f2 f4 f5 f6 f7
    rw [← hx] at C2 f1 f2 f8
    have C3 := fun w1 (h : Mx w1) => join_any ⟨P.toArray⟩ ⟨x.toArray⟩ w1 (by show P.toArray.size ≤ _; rw [List.size_toArray]; omega) (by show x.toArray.size ≤ _; rw [List.size_toArray]; omega) h
    unfold JoinedTo at C3
    rw [show (⟨P.toArray⟩ : ByteArray).data.toList = P from rfl, show (⟨x.toArray⟩ : ByteArray).data.toList = x from rfl, f1, f2] at C3
    have C4 := fun w1 (h : Mx w1) => depth_any s w1 (by omega) h
    rw [f3] at C4
    have C5 := fun w1 (h : Mx w1) => depth_any ⟨P.toArray⟩ w1 (by show P.toArray.size ≤ _; rw [List.size_toArray]; omega) h
    rw [show (⟨P.toArray⟩ : ByteArray).data.toList = P from rfl, f4] at C5
    have C6 := fun w1 (h : Mx w1) => under_any s ⟨P.toArray⟩ w1 (by omega) (by show P.toArray.size ≤ _; rw [List.size_toArray]; omega) h
    rw [show (⟨P.toArray⟩ : ByteArray).data.toList = P from rfl, f5] at C6
    have C7 := fun w1 (h : Mx w1) => under_any ⟨P.toArray⟩ s w1 (by show P.toArray.size ≤ _; rw [List.size_toArray]; omega) (by omega) h
    rw [show (⟨P.toArray⟩ : ByteArray).data.toList = P from rfl, f6] at C7
    have C1 := Lib.hid C1
    have C2 := Lib.hid C2
    have C3 := Lib.hid C3
    have C4 := Lib.hid C4
    have C5 := Lib.hid C5
    have C6 := Lib.hid C6
    have C7 := Lib.hid C7
    have hke : ((k : Int) + 1 == (k : Int) + 1) = true := beq_self_eq_true _
    clear h1 hm HPE f1 f2 f3 f4 f5 f6 f7 f8 hP hx
    go_enter Tryd.func8, Tryd.ntmps8
    go_wp2_with fail
    refine C1.out.mono ?_
    rintro e w1 ⟨rfl, b1⟩
    have B1 := Lib.hid b1
    clear b1
    go_wp2_with fail
    refine (C2.out _ (HM.out.below B1.out)).mono ?_
    rintro e w2 ⟨rfl, b2⟩
    have B2 := Lib.hid (B1.out.trans (b2.mono B1.out.size))
    clear b2
    go_wp2_with fail
    refine (C3.out _ (HM.out.below B2.out)).mono ?_
    rintro e w3 ⟨rfl, b3⟩
    have B3 := Lib.hid (B2.out.trans (b3.mono B2.out.size))
    clear b3
    go_wp2_with fail
    refine (alive_any _ (HM.out.below B3.out)).mono ?_
    rintro e w4 ⟨rfl, b4⟩
    have B4 := Lib.hid (B3.out.trans (b4.mono B3.out.size))
    clear b4
    go_wp2_with fail
    refine (C4.out _ (HM.out.below B4.out)).mono ?_
    rintro e w5 ⟨rfl, b5⟩
    have B5 := Lib.hid (B4.out.trans (b5.mono B4.out.size))
    clear b5
    go_wp2_with fail
    refine (C5.out _ (HM.out.below B5.out)).mono ?_
    rintro e w6 ⟨rfl, b6⟩
    have B6 := Lib.hid (B5.out.trans (b6.mono B5.out.size))
    clear b6
    go_wp2_with fail
    refine (C6.out _ (HM.out.below B6.out)).mono ?_
    rintro e w7 ⟨rfl, b7⟩
    have B7 := Lib.hid (B6.out.trans (b7.mono B6.out.size))
    clear b7
    go_wp2_with fail
    refine (C7.out _ (HM.out.below B7.out)).mono ?_
    rintro e w8 ⟨rfl, b8⟩
    have B8 := Lib.hid (B7.out.trans (b8.mono B7.out.size))
    clear b8
    go_wp2_with fail
    go_ret
    exact ⟨ret_bool (by simp [Lib.toList_data]), B8.out⟩
end Go.Proofs.YtegpoiepeaofgaaDoor
