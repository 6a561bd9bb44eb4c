/- chart: ChartNames' walk. Conditions: the text has at most 140737488351232 bytes; the library's variables hold what the row lays. -/
import Derived.Test.YtbkjhogfpcmcbaaDoorLk
namespace Go.Proofs.YtbkjhogfpcmcbaaDoor
open Go Go.RowKit Zn
open Go.Lib (decDigits)
set_option linter.unusedVariables false
set_option linter.unusedSimpArgs false
variable {w w' : World}
def FolderAt (v : Int) (f at' : ByteArray) : Prop := (∀ w, Tb w → Calls Tryd.prog 29 #[.int .i64 v] w fun e w' => e = .returned (.string f) ∧ Below w.heap.size w w') ∧ (∀ w, Tb w → Calls Tryd.prog 30 #[.int .i64 v] w fun e w' => e = .returned (.string at') ∧ Below w.heap.size w w') ∧ (∀ w, Calls Tryd.prog 31 #[.int .i64 v] w fun e w' => e = .returned (.string f) ∧ Below w.heap.size w w')
theorem folder_at_no (v : Int) (h : v < 1 ∨ 999 < v) : FolderAt v ⟨#[]⟩ ⟨#[]⟩ := ⟨fun w _ => folder_no v w h, fun w _ => view_no v w h, fun w => rfolder_no v w h⟩
theorem folder_at_yes (v : Int) (h1 : 1 ≤ v) (h2 : v ≤ 999) : ∃ f : ByteArray, f.toList.isEmpty = false ∧ f.size ≤ 100 ∧ validZ (f ++ (⟨#[47, 118, 105, 101, 119]⟩ : ByteArray)).data.toList = true ∧ FolderAt v f (f ++ (⟨#[47, 118, 105, 101, 119]⟩ : ByteArray)) := by
  obtain ⟨n, rfl⟩ := Int.eq_ofNat_of_zero_le (show 0 ≤ v by omega)
  have hl := dec_len 2 n (by omega)
  have hvv := view_valid n (by omega)
  have ht : (⟨(decDigits n).toArray⟩ : ByteArray).size ≤ 3 := by show (decDigits n).toArray.size ≤ 3; rw [List.size_toArray]; exact hl
  refine ⟨(⟨#[47, 118, 111, 108, 45]⟩ : ByteArray) ++ ⟨(decDigits n).toArray⟩, ?_, ?_, ?_, fun w hw => folder_yes n _ w h1 h2 (by omega) (itoa_nat n (by omega) w hw), fun w hw => view_yes n _ w h1 h2 (by omega) (itoa_nat n (by omega) w hw), fun w => rfolder_yes n w (by omega) (by omega)⟩
  · rw [Lib.toList_data, ByteArray.data_append, Array.toList_append]; rfl
  · rw [ByteArray.size_append]; show 5 + _ ≤ 100; omega
  · rw [cat_mk, cat_mk]; exact hvv
def ViewAtT (v : Int) (t : ByteArray) (may : Bool) : Prop := ∀ w, Tb w → Calls Tryd.prog 33 #[.int .i64 v] w fun e w' => e = .returned (.tuple #[.string t, .bool may]) ∧ Below w.heap.size w w'
theorem num0_of {l : Nm} (h : numB l = true) : num0 l = ((val l : Nat) : Int) ∧ numV l = ((val l : Nat) : Int) := by unfold num0 numV; rw [h]; exact ⟨rfl, rfl⟩
theorem num0_no {l : Nm} (h : numB l = false) : num0 l = 0 ∧ numV l = -1 := by unfold num0 numV; rw [h]; exact ⟨rfl, rfl⟩
set_option maxHeartbeats 4000000 in
theorem names_nnn (W : World) (hm : Mx W) (ht : Tb W) (v u : Int) (s : ByteArray) (hs : s.size ≤ 140737488351232) (hF : FolderAt v ⟨#[]⟩ ⟨#[]⟩) (hu : u < 0 ∨ 4611686018427387904 < u) (hb : numB s.data.toList = false) : Calls Tryd.prog 9 #[.int .i64 v, .int .i64 u, .string s] W fun e W' => e = .returned (.bool true) ∧ Below W.heap.size W W' := by
  have AL := Lib.hid (fun w1 (h : Mx w1) => alive_any w1 h)
  have HM := Lib.hid hm
  have HT := Lib.hid ht
  obtain ⟨c1, c2, c3⟩ := hF
  have C1 := Lib.hid c1
  have C2 := Lib.hid c2
  have C3 := Lib.hid c3
  clear c1 c2 c3 hm ht
  have c5 := fun (w1 : World) (h : Tb w1) => viewtext_no u w1 hu
  have c6 := fun w1 => parse_any ⟨#[]⟩ w1 (by decide)
  have hn0 : numB (⟨#[]⟩ : ByteArray).data.toList = false := num_nil
  rw [hn0, (num0_no hn0).1] at c6
  have C5 := Lib.hid c5
  have C6 := Lib.hid c6
  clear c5 c6 hn0
  have c7 := fun w1 => parse_any s w1 (by omega)
  have c8 := fun w1 => rnum_any s w1 (by omega)
  unfold Numd at c8
  rw [hb, (num0_no hb).1] at c7
  rw [(num0_no hb).2] at c8
  have C7 := Lib.hid c7
  have C8 := Lib.hid c8
  clear c7 c8 hb hs
  rcases hu with hu | hu
  · have m1 : decide (0 ≤ u) = false := by rw [decide_eq_false_iff_not]; omega
    clear hu
    go_enter Tryd.func9, Tryd.ntmps9
    go_wp2_with fail
    refine (C1.out _ HT.out).mono ?_
    rintro e w1 ⟨rfl, b1⟩
    have HB1 := Lib.hid b1
    have HM1 := Lib.hid (HM.out.below b1)
    have HT1 := Lib.hid (HT.out.below b1)
    clear b1
    go_wp2_with fail
    refine (C2.out _ HT1.out).mono ?_
    rintro e w2 ⟨rfl, b2⟩
    have HB2 := Lib.hid (HB1.out.trans (b2.mono HB1.out.size))
    have HM2 := Lib.hid (HM1.out.below b2)
    have HT2 := Lib.hid (HT1.out.below b2)
    clear b2
    go_wp2_with fail
    refine (C3.out _).mono ?_
    rintro e w3 ⟨rfl, b3⟩
    have HB3 := Lib.hid (HB2.out.trans (b3.mono HB2.out.size))
    have HM3 := Lib.hid (HM2.out.below b3)
    have HT3 := Lib.hid (HT2.out.below b3)
    clear b3
    go_wp2_with fail
    refine (C5.out _ HT3.out).mono ?_
    rintro e w4 ⟨rfl, b4⟩
    have HB4 := Lib.hid (HB3.out.trans (b4.mono HB3.out.size))
    have HM4 := Lib.hid (HM3.out.below b4)
    have HT4 := Lib.hid (HT3.out.below b4)
    clear b4
    go_wp2_with fail
    refine (C6.out _).mono ?_
    rintro e w5 ⟨rfl, b5⟩
    have HB5 := Lib.hid (HB4.out.trans (b5.mono HB4.out.size))
    have HM5 := Lib.hid (HM4.out.below b5)
    have HT5 := Lib.hid (HT4.out.below b5)
    clear b5
    go_wp2_with fail
    refine (C7.out _).mono ?_
    rintro e w6 ⟨rfl, b6⟩
    have HB6 := Lib.hid (HB5.out.trans (b6.mono HB5.out.size))
    have HM6 := Lib.hid (HM5.out.below b6)
    have HT6 := Lib.hid (HT5.out.below b6)
    clear b6
    go_wp2_with fail
    refine (C8.out _).mono ?_
    rintro e w7 ⟨rfl, b7⟩
    have HB7 := Lib.hid (HB6.out.trans (b7.mono HB6.out.size))
    have HM7 := Lib.hid (HM6.out.below b7)
    have HT7 := Lib.hid (HT6.out.below b7)
    clear b7
    go_wp2_with fail
    refine (AL.out _ HM7.out).mono ?_
    rintro e w8 ⟨rfl, b8⟩
    have HB8 := Lib.hid (HB7.out.trans (b8.mono HB7.out.size))
    have HM8 := Lib.hid (HM7.out.below b8)
    have HT8 := Lib.hid (HT7.out.below b8)
    clear b8
    go_wp2_with fail
    go_ret
    exact ⟨rfl, HB8.out⟩
  · have m1 : decide (0 ≤ u) = true := by rw [decide_eq_true_iff]; omega
    have m2 : decide (u ≤ 4611686018427387904) = false := by rw [decide_eq_false_iff_not]; omega
    clear hu
    go_enter Tryd.func9, Tryd.ntmps9
    go_wp2_with fail
    refine (C1.out _ HT.out).mono ?_
    rintro e w1 ⟨rfl, b1⟩
    have HB1 := Lib.hid b1
    have HM1 := Lib.hid (HM.out.below b1)
    have HT1 := Lib.hid (HT.out.below b1)
    clear b1
    go_wp2_with fail
    refine (C2.out _ HT1.out).mono ?_
    rintro e w2 ⟨rfl, b2⟩
    have HB2 := Lib.hid (HB1.out.trans (b2.mono HB1.out.size))
    have HM2 := Lib.hid (HM1.out.below b2)
    have HT2 := Lib.hid (HT1.out.below b2)
    clear b2
    go_wp2_with fail
    refine (C3.out _).mono ?_
    rintro e w3 ⟨rfl, b3⟩
    have HB3 := Lib.hid (HB2.out.trans (b3.mono HB2.out.size))
    have HM3 := Lib.hid (HM2.out.below b3)
    have HT3 := Lib.hid (HT2.out.below b3)
    clear b3
    go_wp2_with fail
    refine (C5.out _ HT3.out).mono ?_
    rintro e w4 ⟨rfl, b4⟩
    have HB4 := Lib.hid (HB3.out.trans (b4.mono HB3.out.size))
    have HM4 := Lib.hid (HM3.out.below b4)
    have HT4 := Lib.hid (HT3.out.below b4)
    clear b4
    go_wp2_with fail
    refine (C6.out _).mono ?_
    rintro e w5 ⟨rfl, b5⟩
    have HB5 := Lib.hid (HB4.out.trans (b5.mono HB4.out.size))
    have HM5 := Lib.hid (HM4.out.below b5)
    have HT5 := Lib.hid (HT4.out.below b5)
    clear b5
    go_wp2_with fail
    refine (C7.out _).mono ?_
    rintro e w6 ⟨rfl, b6⟩
    have HB6 := Lib.hid (HB5.out.trans (b6.mono HB5.out.size))
    have HM6 := Lib.hid (HM5.out.below b6)
    have HT6 := Lib.hid (HT5.out.below b6)
    clear b6
    go_wp2_with fail
    refine (C8.out _).mono ?_
    rintro e w7 ⟨rfl, b7⟩
    have HB7 := Lib.hid (HB6.out.trans (b7.mono HB6.out.size))
    have HM7 := Lib.hid (HM6.out.below b7)
    have HT7 := Lib.hid (HT6.out.below b7)
    clear b7
    go_wp2_with fail
    refine (AL.out _ HM7.out).mono ?_
    rintro e w8 ⟨rfl, b8⟩
    have HB8 := Lib.hid (HB7.out.trans (b8.mono HB7.out.size))
    have HM8 := Lib.hid (HM7.out.below b8)
    have HT8 := Lib.hid (HT7.out.below b8)
    clear b8
    go_wp2_with fail
    go_ret
    exact ⟨rfl, HB8.out⟩
set_option maxHeartbeats 4000000 in
theorem names_nny (W : World) (hm : Mx W) (ht : Tb W) (v u : Int) (s : ByteArray) (hs : s.size ≤ 140737488351232) (hF : FolderAt v ⟨#[]⟩ ⟨#[]⟩) (hu : u < 0 ∨ 4611686018427387904 < u) (hb : numB s.data.toList = true) : Calls Tryd.prog 9 #[.int .i64 v, .int .i64 u, .string s] W fun e W' => e = .returned (.bool true) ∧ Below W.heap.size W W' := by
  have AL := Lib.hid (fun w1 (h : Mx w1) => alive_any w1 h)
  have HM := Lib.hid hm
  have HT := Lib.hid ht
  obtain ⟨c1, c2, c3⟩ := hF
  have C1 := Lib.hid c1
  have C2 := Lib.hid c2
  have C3 := Lib.hid c3
  clear c1 c2 c3 hm ht
  have c5 := fun (w1 : World) (h : Tb w1) => viewtext_no u w1 hu
  have c6 := fun w1 => parse_any ⟨#[]⟩ w1 (by decide)
  have hn0 : numB (⟨#[]⟩ : ByteArray).data.toList = false := num_nil
  rw [hn0, (num0_no hn0).1] at c6
  have C5 := Lib.hid c5
  have C6 := Lib.hid c6
  clear c5 c6 hn0
  have c7 := fun w1 => parse_any s w1 (by omega)
  have c8 := fun w1 => rnum_any s w1 (by omega)
  unfold Numd at c8
  rw [hb, (num0_of hb).1] at c7
  rw [(num0_of hb).2] at c8
  obtain ⟨z, hz⟩ : ∃ z, z = val s.data.toList := ⟨_, rfl⟩
  rw [← hz] at c7 c8
  have z1 : decide (0 ≤ (z : Int)) = true := by rw [decide_eq_true_iff]; omega
  clear hz
  have C7 := Lib.hid c7
  have C8 := Lib.hid c8
  clear c7 c8 hb hs
  rcases hu with hu | hu
  · have m1 : decide (0 ≤ u) = false := by rw [decide_eq_false_iff_not]; omega
    clear hu
    go_enter Tryd.func9, Tryd.ntmps9
    go_wp2_with fail
    refine (C1.out _ HT.out).mono ?_
    rintro e w1 ⟨rfl, b1⟩
    have HB1 := Lib.hid b1
    have HM1 := Lib.hid (HM.out.below b1)
    have HT1 := Lib.hid (HT.out.below b1)
    clear b1
    go_wp2_with fail
    refine (C2.out _ HT1.out).mono ?_
    rintro e w2 ⟨rfl, b2⟩
    have HB2 := Lib.hid (HB1.out.trans (b2.mono HB1.out.size))
    have HM2 := Lib.hid (HM1.out.below b2)
    have HT2 := Lib.hid (HT1.out.below b2)
    clear b2
    go_wp2_with fail
    refine (C3.out _).mono ?_
    rintro e w3 ⟨rfl, b3⟩
    have HB3 := Lib.hid (HB2.out.trans (b3.mono HB2.out.size))
    have HM3 := Lib.hid (HM2.out.below b3)
    have HT3 := Lib.hid (HT2.out.below b3)
    clear b3
    go_wp2_with fail
    refine (C5.out _ HT3.out).mono ?_
    rintro e w4 ⟨rfl, b4⟩
    have HB4 := Lib.hid (HB3.out.trans (b4.mono HB3.out.size))
    have HM4 := Lib.hid (HM3.out.below b4)
    have HT4 := Lib.hid (HT3.out.below b4)
    clear b4
    go_wp2_with fail
    refine (C6.out _).mono ?_
    rintro e w5 ⟨rfl, b5⟩
    have HB5 := Lib.hid (HB4.out.trans (b5.mono HB4.out.size))
    have HM5 := Lib.hid (HM4.out.below b5)
    have HT5 := Lib.hid (HT4.out.below b5)
    clear b5
    go_wp2_with fail
    refine (C7.out _).mono ?_
    rintro e w6 ⟨rfl, b6⟩
    have HB6 := Lib.hid (HB5.out.trans (b6.mono HB5.out.size))
    have HM6 := Lib.hid (HM5.out.below b6)
    have HT6 := Lib.hid (HT5.out.below b6)
    clear b6
    go_wp2_with fail
    refine (C8.out _).mono ?_
    rintro e w7 ⟨rfl, b7⟩
    have HB7 := Lib.hid (HB6.out.trans (b7.mono HB6.out.size))
    have HM7 := Lib.hid (HM6.out.below b7)
    have HT7 := Lib.hid (HT6.out.below b7)
    clear b7
    go_wp2_with fail
    refine (AL.out _ HM7.out).mono ?_
    rintro e w8 ⟨rfl, b8⟩
    have HB8 := Lib.hid (HB7.out.trans (b8.mono HB7.out.size))
    have HM8 := Lib.hid (HM7.out.below b8)
    have HT8 := Lib.hid (HT7.out.below b8)
    clear b8
    go_wp2_with fail
    go_ret
    exact ⟨rfl, HB8.out⟩
  · have m1 : decide (0 ≤ u) = true := by rw [decide_eq_true_iff]; omega
    have m2 : decide (u ≤ 4611686018427387904) = false := by rw [decide_eq_false_iff_not]; omega
    clear hu
    go_enter Tryd.func9, Tryd.ntmps9
    go_wp2_with fail
    refine (C1.out _ HT.out).mono ?_
    rintro e w1 ⟨rfl, b1⟩
    have HB1 := Lib.hid b1
    have HM1 := Lib.hid (HM.out.below b1)
    have HT1 := Lib.hid (HT.out.below b1)
    clear b1
    go_wp2_with fail
    refine (C2.out _ HT1.out).mono ?_
    rintro e w2 ⟨rfl, b2⟩
    have HB2 := Lib.hid (HB1.out.trans (b2.mono HB1.out.size))
    have HM2 := Lib.hid (HM1.out.below b2)
    have HT2 := Lib.hid (HT1.out.below b2)
    clear b2
    go_wp2_with fail
    refine (C3.out _).mono ?_
    rintro e w3 ⟨rfl, b3⟩
    have HB3 := Lib.hid (HB2.out.trans (b3.mono HB2.out.size))
    have HM3 := Lib.hid (HM2.out.below b3)
    have HT3 := Lib.hid (HT2.out.below b3)
    clear b3
    go_wp2_with fail
    refine (C5.out _ HT3.out).mono ?_
    rintro e w4 ⟨rfl, b4⟩
    have HB4 := Lib.hid (HB3.out.trans (b4.mono HB3.out.size))
    have HM4 := Lib.hid (HM3.out.below b4)
    have HT4 := Lib.hid (HT3.out.below b4)
    clear b4
    go_wp2_with fail
    refine (C6.out _).mono ?_
    rintro e w5 ⟨rfl, b5⟩
    have HB5 := Lib.hid (HB4.out.trans (b5.mono HB4.out.size))
    have HM5 := Lib.hid (HM4.out.below b5)
    have HT5 := Lib.hid (HT4.out.below b5)
    clear b5
    go_wp2_with fail
    refine (C7.out _).mono ?_
    rintro e w6 ⟨rfl, b6⟩
    have HB6 := Lib.hid (HB5.out.trans (b6.mono HB5.out.size))
    have HM6 := Lib.hid (HM5.out.below b6)
    have HT6 := Lib.hid (HT5.out.below b6)
    clear b6
    go_wp2_with fail
    refine (C8.out _).mono ?_
    rintro e w7 ⟨rfl, b7⟩
    have HB7 := Lib.hid (HB6.out.trans (b7.mono HB6.out.size))
    have HM7 := Lib.hid (HM6.out.below b7)
    have HT7 := Lib.hid (HT6.out.below b7)
    clear b7
    go_wp2_with fail
    refine (AL.out _ HM7.out).mono ?_
    rintro e w8 ⟨rfl, b8⟩
    have HB8 := Lib.hid (HB7.out.trans (b8.mono HB7.out.size))
    have HM8 := Lib.hid (HM7.out.below b8)
    have HT8 := Lib.hid (HT7.out.below b8)
    clear b8
    go_wp2_with fail
    go_ret
    exact ⟨rfl, HB8.out⟩
set_option maxHeartbeats 4000000 in
theorem names_nyn (W : World) (hm : Mx W) (ht : Tb W) (v u : Int) (s : ByteArray) (hs : s.size ≤ 140737488351232) (hF : FolderAt v ⟨#[]⟩ ⟨#[]⟩) (k : Nat) (hu : u = k) (hk : k ≤ 4611686018427387904) (hb : numB s.data.toList = false) : Calls Tryd.prog 9 #[.int .i64 v, .int .i64 u, .string s] W fun e W' => e = .returned (.bool true) ∧ Below W.heap.size W W' := by
  have AL := Lib.hid (fun w1 (h : Mx w1) => alive_any w1 h)
  have HM := Lib.hid hm
  have HT := Lib.hid ht
  obtain ⟨c1, c2, c3⟩ := hF
  have C1 := Lib.hid c1
  have C2 := Lib.hid c2
  have C3 := Lib.hid c3
  clear c1 c2 c3 hm ht
  obtain ⟨T, hT⟩ : ∃ T : ByteArray, T = ⟨(decDigits k).toArray⟩ := ⟨_, rfl⟩
  have c5 := fun w1 (h : Tb w1) => viewtext_yes k w1 hk h
  have hTD : T.data.toList = decDigits k := by rw [hT]
  have hTs : T.size ≤ 19 := by rw [Lib.size_eq, hTD]; exact dec_len 18 k (by omega)
  have c6 := fun w1 => parse_any T w1 (by omega)
  have c9 := fun w1 => rnum_any T w1 (by omega)
  unfold Numd at c9
  have hnd := num_dec hk
  rw [hTD, hnd, (num0_of hnd).1, (dec_all k).2.1] at c6
  rw [hTD, (num0_of hnd).2, (dec_all k).2.1] at c9
  rw [← hT] at c5
  have C5 := Lib.hid c5
  have C6 := Lib.hid c6
  have C9 := Lib.hid c9
  subst hu
  have m1 : decide (0 ≤ (k : Int)) = true := by rw [decide_eq_true_iff]; omega
  have m2 : decide ((k : Int) ≤ 4611686018427387904) = true := by rw [decide_eq_true_iff]; omega
  clear c5 c6 c9 hT hTD hTs hnd hk
  have c7 := fun w1 => parse_any s w1 (by omega)
  have c8 := fun w1 => rnum_any s w1 (by omega)
  unfold Numd at c8
  rw [hb, (num0_no hb).1] at c7
  rw [(num0_no hb).2] at c8
  have C7 := Lib.hid c7
  have C8 := Lib.hid c8
  clear c7 c8 hb hs
  go_enter Tryd.func9, Tryd.ntmps9
  go_wp2_with fail
  refine (C1.out _ HT.out).mono ?_
  rintro e w1 ⟨rfl, b1⟩
  have HB1 := Lib.hid b1
  have HM1 := Lib.hid (HM.out.below b1)
  have HT1 := Lib.hid (HT.out.below b1)
  clear b1
  go_wp2_with fail
  refine (C2.out _ HT1.out).mono ?_
  rintro e w2 ⟨rfl, b2⟩
  have HB2 := Lib.hid (HB1.out.trans (b2.mono HB1.out.size))
  have HM2 := Lib.hid (HM1.out.below b2)
  have HT2 := Lib.hid (HT1.out.below b2)
  clear b2
  go_wp2_with fail
  refine (C3.out _).mono ?_
  rintro e w3 ⟨rfl, b3⟩
  have HB3 := Lib.hid (HB2.out.trans (b3.mono HB2.out.size))
  have HM3 := Lib.hid (HM2.out.below b3)
  have HT3 := Lib.hid (HT2.out.below b3)
  clear b3
  go_wp2_with fail
  refine (C5.out _ HT3.out).mono ?_
  rintro e w4 ⟨rfl, b4⟩
  have HB4 := Lib.hid (HB3.out.trans (b4.mono HB3.out.size))
  have HM4 := Lib.hid (HM3.out.below b4)
  have HT4 := Lib.hid (HT3.out.below b4)
  clear b4
  go_wp2_with fail
  refine (C6.out _).mono ?_
  rintro e w5 ⟨rfl, b5⟩
  have HB5 := Lib.hid (HB4.out.trans (b5.mono HB4.out.size))
  have HM5 := Lib.hid (HM4.out.below b5)
  have HT5 := Lib.hid (HT4.out.below b5)
  clear b5
  go_wp2_with fail
  refine (C7.out _).mono ?_
  rintro e w6 ⟨rfl, b6⟩
  have HB6 := Lib.hid (HB5.out.trans (b6.mono HB5.out.size))
  have HM6 := Lib.hid (HM5.out.below b6)
  have HT6 := Lib.hid (HT5.out.below b6)
  clear b6
  go_wp2_with fail
  refine (C8.out _).mono ?_
  rintro e w7 ⟨rfl, b7⟩
  have HB7 := Lib.hid (HB6.out.trans (b7.mono HB6.out.size))
  have HM7 := Lib.hid (HM6.out.below b7)
  have HT7 := Lib.hid (HT6.out.below b7)
  clear b7
  go_wp2_with fail
  refine (AL.out _ HM7.out).mono ?_
  rintro e w8 ⟨rfl, b8⟩
  have HB8 := Lib.hid (HB7.out.trans (b8.mono HB7.out.size))
  have HM8 := Lib.hid (HM7.out.below b8)
  have HT8 := Lib.hid (HT7.out.below b8)
  clear b8
  go_wp2_with fail
  refine (C9.out _).mono ?_
  rintro e w9 ⟨rfl, b9⟩
  have HB9 := Lib.hid (HB8.out.trans (b9.mono HB8.out.size))
  have HM9 := Lib.hid (HM8.out.below b9)
  have HT9 := Lib.hid (HT8.out.below b9)
  clear b9
  go_wp2_with fail
  go_ret
  exact ⟨rfl, HB9.out⟩
set_option maxHeartbeats 4000000 in
theorem names_nyy (W : World) (hm : Mx W) (ht : Tb W) (v u : Int) (s : ByteArray) (hs : s.size ≤ 140737488351232) (hF : FolderAt v ⟨#[]⟩ ⟨#[]⟩) (k : Nat) (hu : u = k) (hk : k ≤ 4611686018427387904) (hb : numB s.data.toList = true) : Calls Tryd.prog 9 #[.int .i64 v, .int .i64 u, .string s] W fun e W' => e = .returned (.bool true) ∧ Below W.heap.size W W' := by
  have AL := Lib.hid (fun w1 (h : Mx w1) => alive_any w1 h)
  have HM := Lib.hid hm
  have HT := Lib.hid ht
  obtain ⟨c1, c2, c3⟩ := hF
  have C1 := Lib.hid c1
  have C2 := Lib.hid c2
  have C3 := Lib.hid c3
  clear c1 c2 c3 hm ht
  obtain ⟨T, hT⟩ : ∃ T : ByteArray, T = ⟨(decDigits k).toArray⟩ := ⟨_, rfl⟩
  have c5 := fun w1 (h : Tb w1) => viewtext_yes k w1 hk h
  have hTD : T.data.toList = decDigits k := by rw [hT]
  have hTs : T.size ≤ 19 := by rw [Lib.size_eq, hTD]; exact dec_len 18 k (by omega)
  have c6 := fun w1 => parse_any T w1 (by omega)
  have c9 := fun w1 => rnum_any T w1 (by omega)
  unfold Numd at c9
  have hnd := num_dec hk
  rw [hTD, hnd, (num0_of hnd).1, (dec_all k).2.1] at c6
  rw [hTD, (num0_of hnd).2, (dec_all k).2.1] at c9
  rw [← hT] at c5
  have C5 := Lib.hid c5
  have C6 := Lib.hid c6
  have C9 := Lib.hid c9
  subst hu
  have m1 : decide (0 ≤ (k : Int)) = true := by rw [decide_eq_true_iff]; omega
  have m2 : decide ((k : Int) ≤ 4611686018427387904) = true := by rw [decide_eq_true_iff]; omega
  clear c5 c6 c9 hT hTD hTs hnd hk
  have c7 := fun w1 => parse_any s w1 (by omega)
  have c8 := fun w1 => rnum_any s w1 (by omega)
  unfold Numd at c8
  rw [hb, (num0_of hb).1] at c7
  rw [(num0_of hb).2] at c8
  obtain ⟨z, hz⟩ : ∃ z, z = val s.data.toList := ⟨_, rfl⟩
  rw [← hz] at c7 c8
  have z1 : decide (0 ≤ (z : Int)) = true := by rw [decide_eq_true_iff]; omega
  clear hz
  have C7 := Lib.hid c7
  have C8 := Lib.hid c8
  clear c7 c8 hb hs
  go_enter Tryd.func9, Tryd.ntmps9
  go_wp2_with fail
  refine (C1.out _ HT.out).mono ?_
  rintro e w1 ⟨rfl, b1⟩
  have HB1 := Lib.hid b1
  have HM1 := Lib.hid (HM.out.below b1)
  have HT1 := Lib.hid (HT.out.below b1)
  clear b1
  go_wp2_with fail
  refine (C2.out _ HT1.out).mono ?_
  rintro e w2 ⟨rfl, b2⟩
  have HB2 := Lib.hid (HB1.out.trans (b2.mono HB1.out.size))
  have HM2 := Lib.hid (HM1.out.below b2)
  have HT2 := Lib.hid (HT1.out.below b2)
  clear b2
  go_wp2_with fail
  refine (C3.out _).mono ?_
  rintro e w3 ⟨rfl, b3⟩
  have HB3 := Lib.hid (HB2.out.trans (b3.mono HB2.out.size))
  have HM3 := Lib.hid (HM2.out.below b3)
  have HT3 := Lib.hid (HT2.out.below b3)
  clear b3
  go_wp2_with fail
  refine (C5.out _ HT3.out).mono ?_
  rintro e w4 ⟨rfl, b4⟩
  have HB4 := Lib.hid (HB3.out.trans (b4.mono HB3.out.size))
  have HM4 := Lib.hid (HM3.out.below b4)
  have HT4 := Lib.hid (HT3.out.below b4)
  clear b4
  go_wp2_with fail
  refine (C6.out _).mono ?_
  rintro e w5 ⟨rfl, b5⟩
  have HB5 := Lib.hid (HB4.out.trans (b5.mono HB4.out.size))
  have HM5 := Lib.hid (HM4.out.below b5)
  have HT5 := Lib.hid (HT4.out.below b5)
  clear b5
  go_wp2_with fail
  refine (C7.out _).mono ?_
  rintro e w6 ⟨rfl, b6⟩
  have HB6 := Lib.hid (HB5.out.trans (b6.mono HB5.out.size))
  have HM6 := Lib.hid (HM5.out.below b6)
  have HT6 := Lib.hid (HT5.out.below b6)
  clear b6
  go_wp2_with fail
  refine (C8.out _).mono ?_
  rintro e w7 ⟨rfl, b7⟩
  have HB7 := Lib.hid (HB6.out.trans (b7.mono HB6.out.size))
  have HM7 := Lib.hid (HM6.out.below b7)
  have HT7 := Lib.hid (HT6.out.below b7)
  clear b7
  go_wp2_with fail
  refine (AL.out _ HM7.out).mono ?_
  rintro e w8 ⟨rfl, b8⟩
  have HB8 := Lib.hid (HB7.out.trans (b8.mono HB7.out.size))
  have HM8 := Lib.hid (HM7.out.below b8)
  have HT8 := Lib.hid (HT7.out.below b8)
  clear b8
  go_wp2_with fail
  refine (C9.out _).mono ?_
  rintro e w9 ⟨rfl, b9⟩
  have HB9 := Lib.hid (HB8.out.trans (b9.mono HB8.out.size))
  have HM9 := Lib.hid (HM8.out.below b9)
  have HT9 := Lib.hid (HT8.out.below b9)
  clear b9
  go_wp2_with fail
  go_ret
  exact ⟨rfl, HB9.out⟩
set_option maxHeartbeats 4000000 in
theorem names_ynn (W : World) (hm : Mx W) (ht : Tb W) (v u : Int) (s : ByteArray) (hs : s.size ≤ 140737488351232) (f : ByteArray) (hf0 : f.toList.isEmpty = false) (hf1 : f.size ≤ 100) (hfv : validZ (f ++ (⟨#[47, 118, 105, 101, 119]⟩ : ByteArray)).data.toList = true) (hF : FolderAt v f (f ++ (⟨#[47, 118, 105, 101, 119]⟩ : ByteArray))) (hu : u < 0 ∨ 4611686018427387904 < u) (hb : numB s.data.toList = false) : Calls Tryd.prog 9 #[.int .i64 v, .int .i64 u, .string s] W fun e W' => e = .returned (.bool true) ∧ Below W.heap.size W W' := by
  have AL := Lib.hid (fun w1 (h : Mx w1) => alive_any w1 h)
  have HM := Lib.hid hm
  have HT := Lib.hid ht
  obtain ⟨c1, c2, c3⟩ := hF
  have C1 := Lib.hid c1
  have C2 := Lib.hid c2
  have C3 := Lib.hid c3
  have c4 := fun w1 => rvalid_any (f ++ (⟨#[47, 118, 105, 101, 119]⟩ : ByteArray)) w1 (by rw [ByteArray.size_append]; show _ + 5 ≤ _; omega)
  rw [hfv] at c4
  obtain ⟨A, hA⟩ : ∃ A, A = f ++ (⟨#[47, 118, 105, 101, 119]⟩ : ByteArray) := ⟨_, rfl⟩
  have hsz : ¬ 9223372036854775807 < f.size + 5 := by omega
  rw [← hA] at c4 C2
  have C4 := Lib.hid c4
  have hA2 := hA.symm
  have hA0 : A.toList.isEmpty = false := by rw [hA, Lib.toList_data, cat_mk, List.isEmpty_eq_false_iff]; simp
  clear c4 hA hfv hf1
  clear c1 c2 c3 hm ht
  have c5 := fun (w1 : World) (h : Tb w1) => viewtext_no u w1 hu
  have c6 := fun w1 => parse_any ⟨#[]⟩ w1 (by decide)
  have hn0 : numB (⟨#[]⟩ : ByteArray).data.toList = false := num_nil
  rw [hn0, (num0_no hn0).1] at c6
  have C5 := Lib.hid c5
  have C6 := Lib.hid c6
  clear c5 c6 hn0
  have c7 := fun w1 => parse_any s w1 (by omega)
  have c8 := fun w1 => rnum_any s w1 (by omega)
  unfold Numd at c8
  rw [hb, (num0_no hb).1] at c7
  rw [(num0_no hb).2] at c8
  have C7 := Lib.hid c7
  have C8 := Lib.hid c8
  clear c7 c8 hb hs
  rcases hu with hu | hu
  · have m1 : decide (0 ≤ u) = false := by rw [decide_eq_false_iff_not]; omega
    clear hu
    go_enter Tryd.func9, Tryd.ntmps9
    go_wp2_with fail
    refine (C1.out _ HT.out).mono ?_
    rintro e w1 ⟨rfl, b1⟩
    have HB1 := Lib.hid b1
    have HM1 := Lib.hid (HM.out.below b1)
    have HT1 := Lib.hid (HT.out.below b1)
    clear b1
    go_wp2_with fail
    refine (C2.out _ HT1.out).mono ?_
    rintro e w2 ⟨rfl, b2⟩
    have HB2 := Lib.hid (HB1.out.trans (b2.mono HB1.out.size))
    have HM2 := Lib.hid (HM1.out.below b2)
    have HT2 := Lib.hid (HT1.out.below b2)
    clear b2
    go_wp2_with fail
    refine (C3.out _).mono ?_
    rintro e w3 ⟨rfl, b3⟩
    have HB3 := Lib.hid (HB2.out.trans (b3.mono HB2.out.size))
    have HM3 := Lib.hid (HM2.out.below b3)
    have HT3 := Lib.hid (HT2.out.below b3)
    clear b3
    go_wp2_with fail
    refine (C4.out _).mono ?_
    rintro e w4 ⟨rfl, b4⟩
    have HB4 := Lib.hid (HB3.out.trans (b4.mono HB3.out.size))
    have HM4 := Lib.hid (HM3.out.below b4)
    have HT4 := Lib.hid (HT3.out.below b4)
    clear b4
    go_wp2_with fail
    refine (C5.out _ HT4.out).mono ?_
    rintro e w5 ⟨rfl, b5⟩
    have HB5 := Lib.hid (HB4.out.trans (b5.mono HB4.out.size))
    have HM5 := Lib.hid (HM4.out.below b5)
    have HT5 := Lib.hid (HT4.out.below b5)
    clear b5
    go_wp2_with fail
    refine (C6.out _).mono ?_
    rintro e w6 ⟨rfl, b6⟩
    have HB6 := Lib.hid (HB5.out.trans (b6.mono HB5.out.size))
    have HM6 := Lib.hid (HM5.out.below b6)
    have HT6 := Lib.hid (HT5.out.below b6)
    clear b6
    go_wp2_with fail
    refine (C7.out _).mono ?_
    rintro e w7 ⟨rfl, b7⟩
    have HB7 := Lib.hid (HB6.out.trans (b7.mono HB6.out.size))
    have HM7 := Lib.hid (HM6.out.below b7)
    have HT7 := Lib.hid (HT6.out.below b7)
    clear b7
    go_wp2_with fail
    refine (C8.out _).mono ?_
    rintro e w8 ⟨rfl, b8⟩
    have HB8 := Lib.hid (HB7.out.trans (b8.mono HB7.out.size))
    have HM8 := Lib.hid (HM7.out.below b8)
    have HT8 := Lib.hid (HT7.out.below b8)
    clear b8
    go_wp2_with fail
    refine (AL.out _ HM8.out).mono ?_
    rintro e w9 ⟨rfl, b9⟩
    have HB9 := Lib.hid (HB8.out.trans (b9.mono HB8.out.size))
    have HM9 := Lib.hid (HM8.out.below b9)
    have HT9 := Lib.hid (HT8.out.below b9)
    clear b9
    go_wp2_with fail
    go_ret
    exact ⟨rfl, HB9.out⟩
  · have m1 : decide (0 ≤ u) = true := by rw [decide_eq_true_iff]; omega
    have m2 : decide (u ≤ 4611686018427387904) = false := by rw [decide_eq_false_iff_not]; omega
    clear hu
    go_enter Tryd.func9, Tryd.ntmps9
    go_wp2_with fail
    refine (C1.out _ HT.out).mono ?_
    rintro e w1 ⟨rfl, b1⟩
    have HB1 := Lib.hid b1
    have HM1 := Lib.hid (HM.out.below b1)
    have HT1 := Lib.hid (HT.out.below b1)
    clear b1
    go_wp2_with fail
    refine (C2.out _ HT1.out).mono ?_
    rintro e w2 ⟨rfl, b2⟩
    have HB2 := Lib.hid (HB1.out.trans (b2.mono HB1.out.size))
    have HM2 := Lib.hid (HM1.out.below b2)
    have HT2 := Lib.hid (HT1.out.below b2)
    clear b2
    go_wp2_with fail
    refine (C3.out _).mono ?_
    rintro e w3 ⟨rfl, b3⟩
    have HB3 := Lib.hid (HB2.out.trans (b3.mono HB2.out.size))
    have HM3 := Lib.hid (HM2.out.below b3)
    have HT3 := Lib.hid (HT2.out.below b3)
    clear b3
    go_wp2_with fail
    refine (C4.out _).mono ?_
    rintro e w4 ⟨rfl, b4⟩
    have HB4 := Lib.hid (HB3.out.trans (b4.mono HB3.out.size))
    have HM4 := Lib.hid (HM3.out.below b4)
    have HT4 := Lib.hid (HT3.out.below b4)
    clear b4
    go_wp2_with fail
    refine (C5.out _ HT4.out).mono ?_
    rintro e w5 ⟨rfl, b5⟩
    have HB5 := Lib.hid (HB4.out.trans (b5.mono HB4.out.size))
    have HM5 := Lib.hid (HM4.out.below b5)
    have HT5 := Lib.hid (HT4.out.below b5)
    clear b5
    go_wp2_with fail
    refine (C6.out _).mono ?_
    rintro e w6 ⟨rfl, b6⟩
    have HB6 := Lib.hid (HB5.out.trans (b6.mono HB5.out.size))
    have HM6 := Lib.hid (HM5.out.below b6)
    have HT6 := Lib.hid (HT5.out.below b6)
    clear b6
    go_wp2_with fail
    refine (C7.out _).mono ?_
    rintro e w7 ⟨rfl, b7⟩
    have HB7 := Lib.hid (HB6.out.trans (b7.mono HB6.out.size))
    have HM7 := Lib.hid (HM6.out.below b7)
    have HT7 := Lib.hid (HT6.out.below b7)
    clear b7
    go_wp2_with fail
    refine (C8.out _).mono ?_
    rintro e w8 ⟨rfl, b8⟩
    have HB8 := Lib.hid (HB7.out.trans (b8.mono HB7.out.size))
    have HM8 := Lib.hid (HM7.out.below b8)
    have HT8 := Lib.hid (HT7.out.below b8)
    clear b8
    go_wp2_with fail
    refine (AL.out _ HM8.out).mono ?_
    rintro e w9 ⟨rfl, b9⟩
    have HB9 := Lib.hid (HB8.out.trans (b9.mono HB8.out.size))
    have HM9 := Lib.hid (HM8.out.below b9)
    have HT9 := Lib.hid (HT8.out.below b9)
    clear b9
    go_wp2_with fail
    go_ret
    exact ⟨rfl, HB9.out⟩
set_option maxHeartbeats 4000000 in
theorem names_yny (W : World) (hm : Mx W) (ht : Tb W) (v u : Int) (s : ByteArray) (hs : s.size ≤ 140737488351232) (f : ByteArray) (hf0 : f.toList.isEmpty = false) (hf1 : f.size ≤ 100) (hfv : validZ (f ++ (⟨#[47, 118, 105, 101, 119]⟩ : ByteArray)).data.toList = true) (hF : FolderAt v f (f ++ (⟨#[47, 118, 105, 101, 119]⟩ : ByteArray))) (hu : u < 0 ∨ 4611686018427387904 < u) (hb : numB s.data.toList = true) : Calls Tryd.prog 9 #[.int .i64 v, .int .i64 u, .string s] W fun e W' => e = .returned (.bool true) ∧ Below W.heap.size W W' := by
  have AL := Lib.hid (fun w1 (h : Mx w1) => alive_any w1 h)
  have HM := Lib.hid hm
  have HT := Lib.hid ht
  obtain ⟨c1, c2, c3⟩ := hF
  have C1 := Lib.hid c1
  have C2 := Lib.hid c2
  have C3 := Lib.hid c3
  have c4 := fun w1 => rvalid_any (f ++ (⟨#[47, 118, 105, 101, 119]⟩ : ByteArray)) w1 (by rw [ByteArray.size_append]; show _ + 5 ≤ _; omega)
  rw [hfv] at c4
  obtain ⟨A, hA⟩ : ∃ A, A = f ++ (⟨#[47, 118, 105, 101, 119]⟩ : ByteArray) := ⟨_, rfl⟩
  have hsz : ¬ 9223372036854775807 < f.size + 5 := by omega
  rw [← hA] at c4 C2
  have C4 := Lib.hid c4
  have hA2 := hA.symm
  have hA0 : A.toList.isEmpty = false := by rw [hA, Lib.toList_data, cat_mk, List.isEmpty_eq_false_iff]; simp
  clear c4 hA hfv hf1
  clear c1 c2 c3 hm ht
  have c5 := fun (w1 : World) (h : Tb w1) => viewtext_no u w1 hu
  have c6 := fun w1 => parse_any ⟨#[]⟩ w1 (by decide)
  have hn0 : numB (⟨#[]⟩ : ByteArray).data.toList = false := num_nil
  rw [hn0, (num0_no hn0).1] at c6
  have C5 := Lib.hid c5
  have C6 := Lib.hid c6
  clear c5 c6 hn0
  have c7 := fun w1 => parse_any s w1 (by omega)
  have c8 := fun w1 => rnum_any s w1 (by omega)
  unfold Numd at c8
  rw [hb, (num0_of hb).1] at c7
  rw [(num0_of hb).2] at c8
  obtain ⟨z, hz⟩ : ∃ z, z = val s.data.toList := ⟨_, rfl⟩
  rw [← hz] at c7 c8
  have z1 : decide (0 ≤ (z : Int)) = true := by rw [decide_eq_true_iff]; omega
  clear hz
  have C7 := Lib.hid c7
  have C8 := Lib.hid c8
  clear c7 c8 hb hs
  rcases hu with hu | hu
  · have m1 : decide (0 ≤ u) = false := by rw [decide_eq_false_iff_not]; omega
    clear hu
    go_enter Tryd.func9, Tryd.ntmps9
    go_wp2_with fail
    refine (C1.out _ HT.out).mono ?_
    rintro e w1 ⟨rfl, b1⟩
    have HB1 := Lib.hid b1
    have HM1 := Lib.hid (HM.out.below b1)
    have HT1 := Lib.hid (HT.out.below b1)
    clear b1
    go_wp2_with fail
    refine (C2.out _ HT1.out).mono ?_
    rintro e w2 ⟨rfl, b2⟩
    have HB2 := Lib.hid (HB1.out.trans (b2.mono HB1.out.size))
    have HM2 := Lib.hid (HM1.out.below b2)
    have HT2 := Lib.hid (HT1.out.below b2)
    clear b2
    go_wp2_with fail
    refine (C3.out _).mono ?_
    rintro e w3 ⟨rfl, b3⟩
    have HB3 := Lib.hid (HB2.out.trans (b3.mono HB2.out.size))
    have HM3 := Lib.hid (HM2.out.below b3)
    have HT3 := Lib.hid (HT2.out.below b3)
    clear b3
    go_wp2_with fail
    refine (C4.out _).mono ?_
    rintro e w4 ⟨rfl, b4⟩
    have HB4 := Lib.hid (HB3.out.trans (b4.mono HB3.out.size))
    have HM4 := Lib.hid (HM3.out.below b4)
    have HT4 := Lib.hid (HT3.out.below b4)
    clear b4
    go_wp2_with fail
    refine (C5.out _ HT4.out).mono ?_
    rintro e w5 ⟨rfl, b5⟩
    have HB5 := Lib.hid (HB4.out.trans (b5.mono HB4.out.size))
    have HM5 := Lib.hid (HM4.out.below b5)
    have HT5 := Lib.hid (HT4.out.below b5)
    clear b5
    go_wp2_with fail
    refine (C6.out _).mono ?_
    rintro e w6 ⟨rfl, b6⟩
    have HB6 := Lib.hid (HB5.out.trans (b6.mono HB5.out.size))
    have HM6 := Lib.hid (HM5.out.below b6)
    have HT6 := Lib.hid (HT5.out.below b6)
    clear b6
    go_wp2_with fail
    refine (C7.out _).mono ?_
    rintro e w7 ⟨rfl, b7⟩
    have HB7 := Lib.hid (HB6.out.trans (b7.mono HB6.out.size))
    have HM7 := Lib.hid (HM6.out.below b7)
    have HT7 := Lib.hid (HT6.out.below b7)
    clear b7
    go_wp2_with fail
    refine (C8.out _).mono ?_
    rintro e w8 ⟨rfl, b8⟩
    have HB8 := Lib.hid (HB7.out.trans (b8.mono HB7.out.size))
    have HM8 := Lib.hid (HM7.out.below b8)
    have HT8 := Lib.hid (HT7.out.below b8)
    clear b8
    go_wp2_with fail
    refine (AL.out _ HM8.out).mono ?_
    rintro e w9 ⟨rfl, b9⟩
    have HB9 := Lib.hid (HB8.out.trans (b9.mono HB8.out.size))
    have HM9 := Lib.hid (HM8.out.below b9)
    have HT9 := Lib.hid (HT8.out.below b9)
    clear b9
    go_wp2_with fail
    go_ret
    exact ⟨rfl, HB9.out⟩
  · have m1 : decide (0 ≤ u) = true := by rw [decide_eq_true_iff]; omega
    have m2 : decide (u ≤ 4611686018427387904) = false := by rw [decide_eq_false_iff_not]; omega
    clear hu
    go_enter Tryd.func9, Tryd.ntmps9
    go_wp2_with fail
    refine (C1.out _ HT.out).mono ?_
    rintro e w1 ⟨rfl, b1⟩
    have HB1 := Lib.hid b1
    have HM1 := Lib.hid (HM.out.below b1)
    have HT1 := Lib.hid (HT.out.below b1)
    clear b1
    go_wp2_with fail
    refine (C2.out _ HT1.out).mono ?_
    rintro e w2 ⟨rfl, b2⟩
    have HB2 := Lib.hid (HB1.out.trans (b2.mono HB1.out.size))
    have HM2 := Lib.hid (HM1.out.below b2)
    have HT2 := Lib.hid (HT1.out.below b2)
    clear b2
    go_wp2_with fail
    refine (C3.out _).mono ?_
    rintro e w3 ⟨rfl, b3⟩
    have HB3 := Lib.hid (HB2.out.trans (b3.mono HB2.out.size))
    have HM3 := Lib.hid (HM2.out.below b3)
    have HT3 := Lib.hid (HT2.out.below b3)
    clear b3
    go_wp2_with fail
    refine (C4.out _).mono ?_
    rintro e w4 ⟨rfl, b4⟩
    have HB4 := Lib.hid (HB3.out.trans (b4.mono HB3.out.size))
    have HM4 := Lib.hid (HM3.out.below b4)
    have HT4 := Lib.hid (HT3.out.below b4)
    clear b4
    go_wp2_with fail
    refine (C5.out _ HT4.out).mono ?_
    rintro e w5 ⟨rfl, b5⟩
    have HB5 := Lib.hid (HB4.out.trans (b5.mono HB4.out.size))
    have HM5 := Lib.hid (HM4.out.below b5)
    have HT5 := Lib.hid (HT4.out.below b5)
    clear b5
    go_wp2_with fail
    refine (C6.out _).mono ?_
    rintro e w6 ⟨rfl, b6⟩
    have HB6 := Lib.hid (HB5.out.trans (b6.mono HB5.out.size))
    have HM6 := Lib.hid (HM5.out.below b6)
    have HT6 := Lib.hid (HT5.out.below b6)
    clear b6
    go_wp2_with fail
    refine (C7.out _).mono ?_
    rintro e w7 ⟨rfl, b7⟩
    have HB7 := Lib.hid (HB6.out.trans (b7.mono HB6.out.size))
    have HM7 := Lib.hid (HM6.out.below b7)
    have HT7 := Lib.hid (HT6.out.below b7)
    clear b7
    go_wp2_with fail
    refine (C8.out _).mono ?_
    rintro e w8 ⟨rfl, b8⟩
    have HB8 := Lib.hid (HB7.out.trans (b8.mono HB7.out.size))
    have HM8 := Lib.hid (HM7.out.below b8)
    have HT8 := Lib.hid (HT7.out.below b8)
    clear b8
    go_wp2_with fail
    refine (AL.out _ HM8.out).mono ?_
    rintro e w9 ⟨rfl, b9⟩
    have HB9 := Lib.hid (HB8.out.trans (b9.mono HB8.out.size))
    have HM9 := Lib.hid (HM8.out.below b9)
    have HT9 := Lib.hid (HT8.out.below b9)
    clear b9
    go_wp2_with fail
    go_ret
    exact ⟨rfl, HB9.out⟩
set_option maxHeartbeats 4000000 in
theorem names_yyn (W : World) (hm : Mx W) (ht : Tb W) (v u : Int) (s : ByteArray) (hs : s.size ≤ 140737488351232) (f : ByteArray) (hf0 : f.toList.isEmpty = false) (hf1 : f.size ≤ 100) (hfv : validZ (f ++ (⟨#[47, 118, 105, 101, 119]⟩ : ByteArray)).data.toList = true) (hF : FolderAt v f (f ++ (⟨#[47, 118, 105, 101, 119]⟩ : ByteArray))) (k : Nat) (hu : u = k) (hk : k ≤ 4611686018427387904) (hb : numB s.data.toList = false) : Calls Tryd.prog 9 #[.int .i64 v, .int .i64 u, .string s] W fun e W' => e = .returned (.bool true) ∧ Below W.heap.size W W' := by
  have AL := Lib.hid (fun w1 (h : Mx w1) => alive_any w1 h)
  have HM := Lib.hid hm
  have HT := Lib.hid ht
  obtain ⟨c1, c2, c3⟩ := hF
  have C1 := Lib.hid c1
  have C2 := Lib.hid c2
  have C3 := Lib.hid c3
  have c4 := fun w1 => rvalid_any (f ++ (⟨#[47, 118, 105, 101, 119]⟩ : ByteArray)) w1 (by rw [ByteArray.size_append]; show _ + 5 ≤ _; omega)
  rw [hfv] at c4
  obtain ⟨A, hA⟩ : ∃ A, A = f ++ (⟨#[47, 118, 105, 101, 119]⟩ : ByteArray) := ⟨_, rfl⟩
  have hsz : ¬ 9223372036854775807 < f.size + 5 := by omega
  rw [← hA] at c4 C2
  have C4 := Lib.hid c4
  have hA2 := hA.symm
  have hA0 : A.toList.isEmpty = false := by rw [hA, Lib.toList_data, cat_mk, List.isEmpty_eq_false_iff]; simp
  clear c4 hA hfv hf1
  clear c1 c2 c3 hm ht
  obtain ⟨T, hT⟩ : ∃ T : ByteArray, T = ⟨(decDigits k).toArray⟩ := ⟨_, rfl⟩
  have c5 := fun w1 (h : Tb w1) => viewtext_yes k w1 hk h
  have hTD : T.data.toList = decDigits k := by rw [hT]
  have hTs : T.size ≤ 19 := by rw [Lib.size_eq, hTD]; exact dec_len 18 k (by omega)
  have c6 := fun w1 => parse_any T w1 (by omega)
  have c9 := fun w1 => rnum_any T w1 (by omega)
  unfold Numd at c9
  have hnd := num_dec hk
  rw [hTD, hnd, (num0_of hnd).1, (dec_all k).2.1] at c6
  rw [hTD, (num0_of hnd).2, (dec_all k).2.1] at c9
  rw [← hT] at c5
  have C5 := Lib.hid c5
  have C6 := Lib.hid c6
  have C9 := Lib.hid c9
  subst hu
  have m1 : decide (0 ≤ (k : Int)) = true := by rw [decide_eq_true_iff]; omega
  have m2 : decide ((k : Int) ≤ 4611686018427387904) = true := by rw [decide_eq_true_iff]; omega
  clear c5 c6 c9 hT hTD hTs hnd hk
  have c7 := fun w1 => parse_any s w1 (by omega)
  have c8 := fun w1 => rnum_any s w1 (by omega)
  unfold Numd at c8
  rw [hb, (num0_no hb).1] at c7
  rw [(num0_no hb).2] at c8
  have C7 := Lib.hid c7
  have C8 := Lib.hid c8
  clear c7 c8 hb hs
  go_enter Tryd.func9, Tryd.ntmps9
  go_wp2_with fail
  refine (C1.out _ HT.out).mono ?_
  rintro e w1 ⟨rfl, b1⟩
  have HB1 := Lib.hid b1
  have HM1 := Lib.hid (HM.out.below b1)
  have HT1 := Lib.hid (HT.out.below b1)
  clear b1
  go_wp2_with fail
  refine (C2.out _ HT1.out).mono ?_
  rintro e w2 ⟨rfl, b2⟩
  have HB2 := Lib.hid (HB1.out.trans (b2.mono HB1.out.size))
  have HM2 := Lib.hid (HM1.out.below b2)
  have HT2 := Lib.hid (HT1.out.below b2)
  clear b2
  go_wp2_with fail
  refine (C3.out _).mono ?_
  rintro e w3 ⟨rfl, b3⟩
  have HB3 := Lib.hid (HB2.out.trans (b3.mono HB2.out.size))
  have HM3 := Lib.hid (HM2.out.below b3)
  have HT3 := Lib.hid (HT2.out.below b3)
  clear b3
  go_wp2_with fail
  refine (C4.out _).mono ?_
  rintro e w4 ⟨rfl, b4⟩
  have HB4 := Lib.hid (HB3.out.trans (b4.mono HB3.out.size))
  have HM4 := Lib.hid (HM3.out.below b4)
  have HT4 := Lib.hid (HT3.out.below b4)
  clear b4
  go_wp2_with fail
  refine (C5.out _ HT4.out).mono ?_
  rintro e w5 ⟨rfl, b5⟩
  have HB5 := Lib.hid (HB4.out.trans (b5.mono HB4.out.size))
  have HM5 := Lib.hid (HM4.out.below b5)
  have HT5 := Lib.hid (HT4.out.below b5)
  clear b5
  go_wp2_with fail
  refine (C6.out _).mono ?_
  rintro e w6 ⟨rfl, b6⟩
  have HB6 := Lib.hid (HB5.out.trans (b6.mono HB5.out.size))
  have HM6 := Lib.hid (HM5.out.below b6)
  have HT6 := Lib.hid (HT5.out.below b6)
  clear b6
  go_wp2_with fail
  refine (C7.out _).mono ?_
  rintro e w7 ⟨rfl, b7⟩
  have HB7 := Lib.hid (HB6.out.trans (b7.mono HB6.out.size))
  have HM7 := Lib.hid (HM6.out.below b7)
  have HT7 := Lib.hid (HT6.out.below b7)
  clear b7
  go_wp2_with fail
  refine (C8.out _).mono ?_
  rintro e w8 ⟨rfl, b8⟩
  have HB8 := Lib.hid (HB7.out.trans (b8.mono HB7.out.size))
  have HM8 := Lib.hid (HM7.out.below b8)
  have HT8 := Lib.hid (HT7.out.below b8)
  clear b8
  go_wp2_with fail
  refine (AL.out _ HM8.out).mono ?_
  rintro e w9 ⟨rfl, b9⟩
  have HB9 := Lib.hid (HB8.out.trans (b9.mono HB8.out.size))
  have HM9 := Lib.hid (HM8.out.below b9)
  have HT9 := Lib.hid (HT8.out.below b9)
  clear b9
  go_wp2_with fail
  refine (C9.out _).mono ?_
  rintro e w10 ⟨rfl, b10⟩
  have HB10 := Lib.hid (HB9.out.trans (b10.mono HB9.out.size))
  have HM10 := Lib.hid (HM9.out.below b10)
  have HT10 := Lib.hid (HT9.out.below b10)
  clear b10
  go_wp2_with fail
  go_ret
  exact ⟨rfl, HB10.out⟩
set_option maxHeartbeats 4000000 in
theorem names_yyy (W : World) (hm : Mx W) (ht : Tb W) (v u : Int) (s : ByteArray) (hs : s.size ≤ 140737488351232) (f : ByteArray) (hf0 : f.toList.isEmpty = false) (hf1 : f.size ≤ 100) (hfv : validZ (f ++ (⟨#[47, 118, 105, 101, 119]⟩ : ByteArray)).data.toList = true) (hF : FolderAt v f (f ++ (⟨#[47, 118, 105, 101, 119]⟩ : ByteArray))) (k : Nat) (hu : u = k) (hk : k ≤ 4611686018427387904) (hb : numB s.data.toList = true) : Calls Tryd.prog 9 #[.int .i64 v, .int .i64 u, .string s] W fun e W' => e = .returned (.bool true) ∧ Below W.heap.size W W' := by
  have AL := Lib.hid (fun w1 (h : Mx w1) => alive_any w1 h)
  have HM := Lib.hid hm
  have HT := Lib.hid ht
  obtain ⟨c1, c2, c3⟩ := hF
  have C1 := Lib.hid c1
  have C2 := Lib.hid c2
  have C3 := Lib.hid c3
  have c4 := fun w1 => rvalid_any (f ++ (⟨#[47, 118, 105, 101, 119]⟩ : ByteArray)) w1 (by rw [ByteArray.size_append]; show _ + 5 ≤ _; omega)
  rw [hfv] at c4
  obtain ⟨A, hA⟩ : ∃ A, A = f ++ (⟨#[47, 118, 105, 101, 119]⟩ : ByteArray) := ⟨_, rfl⟩
  have hsz : ¬ 9223372036854775807 < f.size + 5 := by omega
  rw [← hA] at c4 C2
  have C4 := Lib.hid c4
  have hA2 := hA.symm
  have hA0 : A.toList.isEmpty = false := by rw [hA, Lib.toList_data, cat_mk, List.isEmpty_eq_false_iff]; simp
  clear c4 hA hfv hf1
  clear c1 c2 c3 hm ht
  obtain ⟨T, hT⟩ : ∃ T : ByteArray, T = ⟨(decDigits k).toArray⟩ := ⟨_, rfl⟩
  have c5 := fun w1 (h : Tb w1) => viewtext_yes k w1 hk h
  have hTD : T.data.toList = decDigits k := by rw [hT]
  have hTs : T.size ≤ 19 := by rw [Lib.size_eq, hTD]; exact dec_len 18 k (by omega)
  have c6 := fun w1 => parse_any T w1 (by omega)
  have c9 := fun w1 => rnum_any T w1 (by omega)
  unfold Numd at c9
  have hnd := num_dec hk
  rw [hTD, hnd, (num0_of hnd).1, (dec_all k).2.1] at c6
  rw [hTD, (num0_of hnd).2, (dec_all k).2.1] at c9
  rw [← hT] at c5
  have C5 := Lib.hid c5
  have C6 := Lib.hid c6
  have C9 := Lib.hid c9
  subst hu
  have m1 : decide (0 ≤ (k : Int)) = true := by rw [decide_eq_true_iff]; omega
  have m2 : decide ((k : Int) ≤ 4611686018427387904) = true := by rw [decide_eq_true_iff]; omega
  clear c5 c6 c9 hT hTD hTs hnd hk
  have c7 := fun w1 => parse_any s w1 (by omega)
  have c8 := fun w1 => rnum_any s w1 (by omega)
  unfold Numd at c8
  rw [hb, (num0_of hb).1] at c7
  rw [(num0_of hb).2] at c8
  obtain ⟨z, hz⟩ : ∃ z, z = val s.data.toList := ⟨_, rfl⟩
  rw [← hz] at c7 c8
  have z1 : decide (0 ≤ (z : Int)) = true := by rw [decide_eq_true_iff]; omega
  clear hz
  have C7 := Lib.hid c7
  have C8 := Lib.hid c8
  clear c7 c8 hb hs
  go_enter Tryd.func9, Tryd.ntmps9
  go_wp2_with fail
  refine (C1.out _ HT.out).mono ?_
  rintro e w1 ⟨rfl, b1⟩
  have HB1 := Lib.hid b1
  have HM1 := Lib.hid (HM.out.below b1)
  have HT1 := Lib.hid (HT.out.below b1)
  clear b1
  go_wp2_with fail
  refine (C2.out _ HT1.out).mono ?_
  rintro e w2 ⟨rfl, b2⟩
  have HB2 := Lib.hid (HB1.out.trans (b2.mono HB1.out.size))
  have HM2 := Lib.hid (HM1.out.below b2)
  have HT2 := Lib.hid (HT1.out.below b2)
  clear b2
  go_wp2_with fail
  refine (C3.out _).mono ?_
  rintro e w3 ⟨rfl, b3⟩
  have HB3 := Lib.hid (HB2.out.trans (b3.mono HB2.out.size))
  have HM3 := Lib.hid (HM2.out.below b3)
  have HT3 := Lib.hid (HT2.out.below b3)
  clear b3
  go_wp2_with fail
  refine (C4.out _).mono ?_
  rintro e w4 ⟨rfl, b4⟩
  have HB4 := Lib.hid (HB3.out.trans (b4.mono HB3.out.size))
  have HM4 := Lib.hid (HM3.out.below b4)
  have HT4 := Lib.hid (HT3.out.below b4)
  clear b4
  go_wp2_with fail
  refine (C5.out _ HT4.out).mono ?_
  rintro e w5 ⟨rfl, b5⟩
  have HB5 := Lib.hid (HB4.out.trans (b5.mono HB4.out.size))
  have HM5 := Lib.hid (HM4.out.below b5)
  have HT5 := Lib.hid (HT4.out.below b5)
  clear b5
  go_wp2_with fail
  refine (C6.out _).mono ?_
  rintro e w6 ⟨rfl, b6⟩
  have HB6 := Lib.hid (HB5.out.trans (b6.mono HB5.out.size))
  have HM6 := Lib.hid (HM5.out.below b6)
  have HT6 := Lib.hid (HT5.out.below b6)
  clear b6
  go_wp2_with fail
  refine (C7.out _).mono ?_
  rintro e w7 ⟨rfl, b7⟩
  have HB7 := Lib.hid (HB6.out.trans (b7.mono HB6.out.size))
  have HM7 := Lib.hid (HM6.out.below b7)
  have HT7 := Lib.hid (HT6.out.below b7)
  clear b7
  go_wp2_with fail
  refine (C8.out _).mono ?_
  rintro e w8 ⟨rfl, b8⟩
  have HB8 := Lib.hid (HB7.out.trans (b8.mono HB7.out.size))
  have HM8 := Lib.hid (HM7.out.below b8)
  have HT8 := Lib.hid (HT7.out.below b8)
  clear b8
  go_wp2_with fail
  refine (AL.out _ HM8.out).mono ?_
  rintro e w9 ⟨rfl, b9⟩
  have HB9 := Lib.hid (HB8.out.trans (b9.mono HB8.out.size))
  have HM9 := Lib.hid (HM8.out.below b9)
  have HT9 := Lib.hid (HT8.out.below b9)
  clear b9
  go_wp2_with fail
  refine (C9.out _).mono ?_
  rintro e w10 ⟨rfl, b10⟩
  have HB10 := Lib.hid (HB9.out.trans (b10.mono HB9.out.size))
  have HM10 := Lib.hid (HM9.out.below b10)
  have HT10 := Lib.hid (HT9.out.below b10)
  clear b10
  go_wp2_with fail
  go_ret
  exact ⟨rfl, HB10.out⟩
theorem chartNames_walk (W : World) (hm : Mx W) (ht : Tb W) (v : Int) (_wv : (Lit.int .i64 v).wf = true) (u : Int) (_wu : (Lit.int .i64 u).wf = true) (s : ByteArray) (_ws : s.size ≤ maxLen) (hs : s.size ≤ 140737488351232) :
    Calls Tryd.prog 9 #[.int .i64 v, .int .i64 u, .string s] W fun e W' => e = .returned (.bool true) ∧ Below W.heap.size W W' := by
  by_cases h1 : 1 ≤ v ∧ v ≤ 999
  · obtain ⟨f, hf0, hf1, hfv, hF⟩ := folder_at_yes v h1.1 h1.2
    by_cases h2 : 0 ≤ u ∧ u ≤ 4611686018427387904
    · obtain ⟨k, hk⟩ := Int.eq_ofNat_of_zero_le h2.1
      cases hb : numB s.data.toList with
      | true => exact names_yyy W hm ht v u s hs f hf0 hf1 hfv hF k hk (by omega) hb
      | false => exact names_yyn W hm ht v u s hs f hf0 hf1 hfv hF k hk (by omega) hb
    · cases hb : numB s.data.toList with
      | true => exact names_yny W hm ht v u s hs f hf0 hf1 hfv hF (by omega) hb
      | false => exact names_ynn W hm ht v u s hs f hf0 hf1 hfv hF (by omega) hb
  · have hF := folder_at_no v (by omega)
    by_cases h2 : 0 ≤ u ∧ u ≤ 4611686018427387904
    · obtain ⟨k, hk⟩ := Int.eq_ofNat_of_zero_le h2.1
      cases hb : numB s.data.toList with
      | true => exact names_nyy W hm ht v u s hs hF k hk (by omega) hb
      | false => exact names_nyn W hm ht v u s hs hF k hk (by omega) hb
    · cases hb : numB s.data.toList with
      | true => exact names_nny W hm ht v u s hs hF (by omega) hb
      | false => exact names_nnn W hm ht v u s hs hF (by omega) hb
end Go.Proofs.YtbkjhogfpcmcbaaDoor
