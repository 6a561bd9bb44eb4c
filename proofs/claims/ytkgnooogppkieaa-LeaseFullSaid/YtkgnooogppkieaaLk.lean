/- The walk of LeaseFull. Conditions: none. -/
import Derived.Test.YtkgnooogppkieaaLj
namespace Go.Proofs.Ytkgnooogppkieaa
open Go.RowKit
set_option linter.unusedVariables false
set_option linter.unusedSimpArgs false

def fl (s t : Int) (c : Nat) : List Lz := (List.range c).map fun k : Nat => ((k : Int) + 1, s, t)
theorem fl_len (s t : Int) (c : Nat) : (fl s t c).length = c := by simp [fl]
theorem fl_get (s t : Int) (c k : Nat) (p : Lz) (h : (fl s t c)[k]? = some p) : k < c ∧ p = ((k : Int) + 1, s, t) := by
  have hl := (List.getElem?_eq_some_iff.1 h).1
  rw [fl_len] at hl
  refine ⟨hl, ?_⟩
  simp [fl, hl] at h
  exact h.symm
theorem fl_rises (s t : Int) (c : Nat) : Rises (fl s t c) := by
  rw [Rises, List.pairwise_iff_getElem]
  intro i j hi hj hij
  simp [fl]; omega
theorem fl_succ (s t : Int) (c : Nat) : fl s t (c + 1) = fl s t c ++ [((c : Int) + 1, s, t)] := by simp [fl, List.range_succ]
theorem fl_k (s t : Int) (c : Nat) (x : Int) (h : (c : Int) < x) : kOf (fl s t c) x = c := by
  have h1 := kOf_is (fl s t c) x c (by rw [fl_len]; exact Nat.le_refl _) (fun j p hj hp => by obtain ⟨h2, rfl⟩ := fl_get s t c j p hp; show (j : Int) + 1 < x; omega) (fun j p hj hp => by have := (fl_get s t c j p hp).1; omega)
  exact h1
theorem fl_in (s t : Int) (c : Nat) (x : Int) (h : (c : Int) < x) : isIn (fl s t c) x = false :=
  isIn_end _ _ (fun j p hj hp => by obtain ⟨h2, rfl⟩ := fl_get s t c j p hp; show (j : Int) + 1 < x; omega)
theorem fl_ins (s t : Int) (c : Nat) : insL (fl s t c) ((c : Int) + 1, s, t) = fl s t (c + 1) := by
  have hk := fl_k s t c ((c : Int) + 1) (by omega)
  rw [insL, hk, fl_succ, List.take_of_length_le (by rw [fl_len]; exact Nat.le_refl _), List.drop_of_length_le (by rw [fl_len]; exact Nat.le_refl _)]

set_option maxRecDepth 100000 in
set_option maxHeartbeats 1000000 in
theorem full_yes (W : World) (c : Nat) (s t : Int) (hc : c ≤ 150) (h0 : 1 ≤ s) (h1 : s ≤ 1000000) (h2 : 0 ≤ t) (h3 : t ≤ 1099511627776) :
    Calls Try.prog 3 #[.int .i64 (c : Int), .int .i64 s, .int .i64 t] W fun e W' => e = .returned (.bool true) ∧ Below W.heap.size W W' := by
  have C0 := Lib.hid (new_any W)
  have hc1 : ¬ (150 : Int) < (c : Int) := by omega
  go_enter Try.func3, Try.ntmps3
  go_wp2_with fail
  refine C0.out.mono ?_
  rintro e w1 ⟨rfl, hT1, bel1⟩
  have HT1 := Lib.hid hT1
  have HB1 := Lib.hid bel1
  clear hT1 bel1 C0
  go_wp2
  go_loopw [41] (fun i wr => ∃ (k : Nat) (v : Value), k ≤ c ∧ i = .int .i64 k ∧ Tab wr W.heap.size W.heap.size v (fl s t (min k 100)) ∧ Below W.heap.size W wr) (fun i _ => c - (intOf i).toNat)
  case atStart => exact ⟨0, _, Nat.zero_le _, rfl, HT1.out, HB1.out⟩
  case round =>
    obtain ⟨k, v, hk, rfl, hT, hbel⟩ := hrel
    have HT := Lib.hid hT
    have HB := Lib.hid hbel
    by_cases hlt : k < c
    · skip
      by_cases h100 : k < 100
      · have e0 : openOk (fl s t (min k 100)) ((k : Int) + 1, s, t) = true := by
          rw [show min k 100 = k by omega, openOk, fl_in s t k _ (by omega), fl_len]
          simp [rightB]; omega
        have C1 := Lib.hid (open_all ((k : Int) + 1, s, t) hT hbel.size (fl_rises s t _) (by rw [fl_len]; omega))
        rw [e0] at C1
        simp only [if_true] at C1
        rw [show insL (fl s t (min k 100)) ((k : Int) + 1, s, t) = fl s t (min (k + 1) 100) by rw [show min k 100 = k by omega, show min (k + 1) 100 = k + 1 by omega]; exact fl_ins s t k] at C1
        have hi : (k : Int) < 100 := by omega
        clear hT hbel e0
        go_wp2_with fail
        refine C1.out.mono ?_
        rintro e w2 ⟨rfl, v2, hT2, g2⟩
        have HT2 := Lib.hid hT2
        have HB2 := Lib.hid (g2.below HB.out (Nat.le_refl _) HT.out.of_ge)
        clear hT2 g2 C1
        go_wp2
        go_roundw
        case rel => exact ⟨k + 1, v2, by omega, by go_num, HT2.out, HB2.out⟩
        case measure => simp [intOf]; omega
      · have e0 : openOk (fl s t (min k 100)) ((k : Int) + 1, s, t) = false := by
          rw [openOk, fl_len, show decide (min k 100 < 100) = false by simp; omega, Bool.and_false]
        have C1 := Lib.hid (open_all ((k : Int) + 1, s, t) hT hbel.size (fl_rises s t _) (by rw [fl_len]; omega))
        rw [e0] at C1
        simp only [Bool.false_eq_true, if_false] at C1
        rw [show fl s t (min k 100) = fl s t (min (k + 1) 100) by rw [show min (k + 1) 100 = min k 100 by omega]] at C1
        have hi : ¬ (k : Int) < 100 := by omega
        clear hT hbel e0
        go_wp2_with fail
        refine C1.out.mono ?_
        rintro e w2 ⟨rfl, v2, hT2, g2⟩
        have HT2 := Lib.hid hT2
        have HB2 := Lib.hid (g2.below HB.out (Nat.le_refl _) HT.out.of_ge)
        clear hT2 g2 C1
        go_wp2
        go_roundw
        case rel => exact ⟨k + 1, v2, by omega, by go_num, HT2.out, HB2.out⟩
        case measure => simp [intOf]; omega
    · obtain rfl : k = c := by omega
      go_wp2_with fail
      refine (alive_any _).mono ?_
      rintro e w2 ⟨rfl, b2⟩
      have C2 := Lib.hid (all_any (HT.out.below b2 (Nat.le_refl _)) (by rw [fl_len]; omega))
      have HB2 := Lib.hid (HB.out.trans (b2.mono HB.out.size))
      clear b2 hT hbel
      go_wp2_with fail
      refine C2.out.mono ?_
      rintro e w3 ⟨l3, rfl, own3, b3⟩
      obtain ⟨ad3, c3, rfl, _⟩ := own_shape own3
      rw [fl_len]
      by_cases h100 : k ≤ 100
      · have e1 : min k 100 = k := by omega
        have e2 : ¬ (100 : Int) < (k : Int) := by omega
        have e3 : (k : Int) ≤ 100 := by omega
        rw [e1]
        go_wp2
        go_ret
        exact ⟨by first | rfl | simp | (simp; omega), HB2.out.trans (b3.mono HB2.out.size)⟩
      · have e1 : min k 100 = 100 := by omega
        have e2 : (100 : Int) < (k : Int) := by omega
        have e3 : ¬ (k : Int) ≤ 100 := by omega
        rw [e1]
        go_wp2
        go_ret
        exact ⟨by first | rfl | simp | (simp; omega), HB2.out.trans (b3.mono HB2.out.size)⟩


set_option maxRecDepth 100000 in
set_option maxHeartbeats 1000000 in
theorem full_no0 (W : World) (c : Nat) (s t : Int) (hc : c ≤ 150) (h0 : ¬ 1 ≤ s) :
    Calls Try.prog 3 #[.int .i64 (c : Int), .int .i64 s, .int .i64 t] W fun e W' => e = .returned (.bool true) ∧ Below W.heap.size W W' := by
  have C0 := Lib.hid (new_any W)
  have hc1 : ¬ (150 : Int) < (c : Int) := by omega
  go_enter Try.func3, Try.ntmps3
  go_wp2_with fail
  refine C0.out.mono ?_
  rintro e w1 ⟨rfl, hT1, bel1⟩
  have HT1 := Lib.hid hT1
  have HB1 := Lib.hid bel1
  clear hT1 bel1 C0
  go_wp2
  go_loopw [41] (fun i wr => ∃ (k : Nat) (v : Value), k ≤ c ∧ i = .int .i64 k ∧ Tab wr W.heap.size W.heap.size v ([]) ∧ Below W.heap.size W wr) (fun i _ => c - (intOf i).toNat)
  case atStart => exact ⟨0, _, Nat.zero_le _, rfl, HT1.out, HB1.out⟩
  case round =>
    obtain ⟨k, v, hk, rfl, hT, hbel⟩ := hrel
    have HT := Lib.hid hT
    have HB := Lib.hid hbel
    by_cases hlt : k < c
    · skip
      have e0 : openOk [] ((k : Int) + 1, s, t) = false := by
        rw [openOk, show rightB ((k : Int) + 1, s, t) = false by simp [rightB]; omega]; rfl
      have C1 := Lib.hid (open_all ((k : Int) + 1, s, t) hT hbel.size (by simp) (by simp))
      rw [e0] at C1
      simp only [Bool.false_eq_true, if_false] at C1
      clear hT hbel e0
      go_wp2_with fail
      refine C1.out.mono ?_
      rintro e w2 ⟨rfl, v2, hT2, g2⟩
      have HT2 := Lib.hid hT2
      have HB2 := Lib.hid (g2.below HB.out (Nat.le_refl _) HT.out.of_ge)
      clear hT2 g2 C1
      go_wp2
      go_roundw
      case rel => exact ⟨k + 1, v2, by omega, by go_num, HT2.out, HB2.out⟩
      case measure => simp [intOf]; omega
    · obtain rfl : k = c := by omega
      go_wp2_with fail
      refine (alive_any _).mono ?_
      rintro e w2 ⟨rfl, b2⟩
      have C2 := Lib.hid (all_any (HT.out.below b2 (Nat.le_refl _)) (by simp))
      have HB2 := Lib.hid (HB.out.trans (b2.mono HB.out.size))
      clear b2 hT hbel
      go_wp2_with fail
      refine C2.out.mono ?_
      rintro e w3 ⟨l3, rfl, own3, b3⟩
      obtain ⟨ad3, c3, rfl, _⟩ := own_shape own3
      go_wp2
      go_ret
      exact ⟨by first | rfl | simp, HB2.out.trans (b3.mono HB2.out.size)⟩


set_option maxRecDepth 100000 in
set_option maxHeartbeats 1000000 in
theorem full_no1 (W : World) (c : Nat) (s t : Int) (hc : c ≤ 150) (h0 : 1 ≤ s) (h1 : ¬ s ≤ 1000000) :
    Calls Try.prog 3 #[.int .i64 (c : Int), .int .i64 s, .int .i64 t] W fun e W' => e = .returned (.bool true) ∧ Below W.heap.size W W' := by
  have C0 := Lib.hid (new_any W)
  have hc1 : ¬ (150 : Int) < (c : Int) := by omega
  go_enter Try.func3, Try.ntmps3
  go_wp2_with fail
  refine C0.out.mono ?_
  rintro e w1 ⟨rfl, hT1, bel1⟩
  have HT1 := Lib.hid hT1
  have HB1 := Lib.hid bel1
  clear hT1 bel1 C0
  go_wp2
  go_loopw [41] (fun i wr => ∃ (k : Nat) (v : Value), k ≤ c ∧ i = .int .i64 k ∧ Tab wr W.heap.size W.heap.size v ([]) ∧ Below W.heap.size W wr) (fun i _ => c - (intOf i).toNat)
  case atStart => exact ⟨0, _, Nat.zero_le _, rfl, HT1.out, HB1.out⟩
  case round =>
    obtain ⟨k, v, hk, rfl, hT, hbel⟩ := hrel
    have HT := Lib.hid hT
    have HB := Lib.hid hbel
    by_cases hlt : k < c
    · skip
      have e0 : openOk [] ((k : Int) + 1, s, t) = false := by
        rw [openOk, show rightB ((k : Int) + 1, s, t) = false by simp [rightB]; omega]; rfl
      have C1 := Lib.hid (open_all ((k : Int) + 1, s, t) hT hbel.size (by simp) (by simp))
      rw [e0] at C1
      simp only [Bool.false_eq_true, if_false] at C1
      clear hT hbel e0
      go_wp2_with fail
      refine C1.out.mono ?_
      rintro e w2 ⟨rfl, v2, hT2, g2⟩
      have HT2 := Lib.hid hT2
      have HB2 := Lib.hid (g2.below HB.out (Nat.le_refl _) HT.out.of_ge)
      clear hT2 g2 C1
      go_wp2
      go_roundw
      case rel => exact ⟨k + 1, v2, by omega, by go_num, HT2.out, HB2.out⟩
      case measure => simp [intOf]; omega
    · obtain rfl : k = c := by omega
      go_wp2_with fail
      refine (alive_any _).mono ?_
      rintro e w2 ⟨rfl, b2⟩
      have C2 := Lib.hid (all_any (HT.out.below b2 (Nat.le_refl _)) (by simp))
      have HB2 := Lib.hid (HB.out.trans (b2.mono HB.out.size))
      clear b2 hT hbel
      go_wp2_with fail
      refine C2.out.mono ?_
      rintro e w3 ⟨l3, rfl, own3, b3⟩
      obtain ⟨ad3, c3, rfl, _⟩ := own_shape own3
      go_wp2
      go_ret
      exact ⟨by first | rfl | simp, HB2.out.trans (b3.mono HB2.out.size)⟩


set_option maxRecDepth 100000 in
set_option maxHeartbeats 1000000 in
theorem full_no2 (W : World) (c : Nat) (s t : Int) (hc : c ≤ 150) (h0 : 1 ≤ s) (h1 : s ≤ 1000000) (h2 : ¬ 0 ≤ t) :
    Calls Try.prog 3 #[.int .i64 (c : Int), .int .i64 s, .int .i64 t] W fun e W' => e = .returned (.bool true) ∧ Below W.heap.size W W' := by
  have C0 := Lib.hid (new_any W)
  have hc1 : ¬ (150 : Int) < (c : Int) := by omega
  go_enter Try.func3, Try.ntmps3
  go_wp2_with fail
  refine C0.out.mono ?_
  rintro e w1 ⟨rfl, hT1, bel1⟩
  have HT1 := Lib.hid hT1
  have HB1 := Lib.hid bel1
  clear hT1 bel1 C0
  go_wp2
  go_loopw [41] (fun i wr => ∃ (k : Nat) (v : Value), k ≤ c ∧ i = .int .i64 k ∧ Tab wr W.heap.size W.heap.size v ([]) ∧ Below W.heap.size W wr) (fun i _ => c - (intOf i).toNat)
  case atStart => exact ⟨0, _, Nat.zero_le _, rfl, HT1.out, HB1.out⟩
  case round =>
    obtain ⟨k, v, hk, rfl, hT, hbel⟩ := hrel
    have HT := Lib.hid hT
    have HB := Lib.hid hbel
    by_cases hlt : k < c
    · skip
      have e0 : openOk [] ((k : Int) + 1, s, t) = false := by
        rw [openOk, show rightB ((k : Int) + 1, s, t) = false by simp [rightB]; omega]; rfl
      have C1 := Lib.hid (open_all ((k : Int) + 1, s, t) hT hbel.size (by simp) (by simp))
      rw [e0] at C1
      simp only [Bool.false_eq_true, if_false] at C1
      clear hT hbel e0
      go_wp2_with fail
      refine C1.out.mono ?_
      rintro e w2 ⟨rfl, v2, hT2, g2⟩
      have HT2 := Lib.hid hT2
      have HB2 := Lib.hid (g2.below HB.out (Nat.le_refl _) HT.out.of_ge)
      clear hT2 g2 C1
      go_wp2
      go_roundw
      case rel => exact ⟨k + 1, v2, by omega, by go_num, HT2.out, HB2.out⟩
      case measure => simp [intOf]; omega
    · obtain rfl : k = c := by omega
      go_wp2_with fail
      refine (alive_any _).mono ?_
      rintro e w2 ⟨rfl, b2⟩
      have C2 := Lib.hid (all_any (HT.out.below b2 (Nat.le_refl _)) (by simp))
      have HB2 := Lib.hid (HB.out.trans (b2.mono HB.out.size))
      clear b2 hT hbel
      go_wp2_with fail
      refine C2.out.mono ?_
      rintro e w3 ⟨l3, rfl, own3, b3⟩
      obtain ⟨ad3, c3, rfl, _⟩ := own_shape own3
      go_wp2
      go_ret
      exact ⟨by first | rfl | simp, HB2.out.trans (b3.mono HB2.out.size)⟩


set_option maxRecDepth 100000 in
set_option maxHeartbeats 1000000 in
theorem full_no3 (W : World) (c : Nat) (s t : Int) (hc : c ≤ 150) (h0 : 1 ≤ s) (h1 : s ≤ 1000000) (h2 : 0 ≤ t) (h3 : ¬ t ≤ 1099511627776) :
    Calls Try.prog 3 #[.int .i64 (c : Int), .int .i64 s, .int .i64 t] W fun e W' => e = .returned (.bool true) ∧ Below W.heap.size W W' := by
  have C0 := Lib.hid (new_any W)
  have hc1 : ¬ (150 : Int) < (c : Int) := by omega
  have h5 : decide (t ≤ 1099511627776) = false := by simpa using h3
  have h6 : (1099511627776 : Int) < t := by omega
  go_enter Try.func3, Try.ntmps3
  go_wp2_with fail
  refine C0.out.mono ?_
  rintro e w1 ⟨rfl, hT1, bel1⟩
  have HT1 := Lib.hid hT1
  have HB1 := Lib.hid bel1
  clear hT1 bel1 C0
  go_wp2
  go_loopw [41] (fun i wr => ∃ (k : Nat) (v : Value), k ≤ c ∧ i = .int .i64 k ∧ Tab wr W.heap.size W.heap.size v ([]) ∧ Below W.heap.size W wr) (fun i _ => c - (intOf i).toNat)
  case atStart => exact ⟨0, _, Nat.zero_le _, rfl, HT1.out, HB1.out⟩
  case round =>
    obtain ⟨k, v, hk, rfl, hT, hbel⟩ := hrel
    have HT := Lib.hid hT
    have HB := Lib.hid hbel
    by_cases hlt : k < c
    · skip
      have e0 : openOk [] ((k : Int) + 1, s, t) = false := by
        rw [openOk, show rightB ((k : Int) + 1, s, t) = false by simp [rightB]; omega]; rfl
      have C1 := Lib.hid (open_all ((k : Int) + 1, s, t) hT hbel.size (by simp) (by simp))
      rw [e0] at C1
      simp only [Bool.false_eq_true, if_false] at C1
      clear hT hbel e0
      go_wp2_with fail
      refine C1.out.mono ?_
      rintro e w2 ⟨rfl, v2, hT2, g2⟩
      have HT2 := Lib.hid hT2
      have HB2 := Lib.hid (g2.below HB.out (Nat.le_refl _) HT.out.of_ge)
      clear hT2 g2 C1
      go_wp2
      go_roundw
      case rel => exact ⟨k + 1, v2, by omega, by go_num, HT2.out, HB2.out⟩
      case measure => simp [intOf]; omega
    · obtain rfl : k = c := by omega
      go_wp2_with fail
      refine (alive_any _).mono ?_
      rintro e w2 ⟨rfl, b2⟩
      have C2 := Lib.hid (all_any (HT.out.below b2 (Nat.le_refl _)) (by simp))
      have HB2 := Lib.hid (HB.out.trans (b2.mono HB.out.size))
      clear b2 hT hbel
      go_wp2_with fail
      refine C2.out.mono ?_
      rintro e w3 ⟨l3, rfl, own3, b3⟩
      obtain ⟨ad3, c3, rfl, _⟩ := own_shape own3
      go_wp2
      go_ret
      exact ⟨by first | rfl | simp, HB2.out.trans (b3.mono HB2.out.size)⟩


theorem leaseFull_walk (W : World) (a : Int) (_w : (Lit.int .i64 a).wf = true) (s : Int) (_w2 : (Lit.int .i64 s).wf = true) (t : Int) (_w3 : (Lit.int .i64 t).wf = true) :
    Calls Try.prog 3 #[.int .i64 a, .int .i64 s, .int .i64 t] W fun e W' => e = .returned (.bool true) ∧ Below W.heap.size W W' := by
  have out : (a < 0 ∨ 150 < a) → Calls Try.prog 3 #[.int .i64 a, .int .i64 s, .int .i64 t] W fun e W' => e = .returned (.bool true) ∧ Below W.heap.size W W' := by
    intro ho
    have C0 := Lib.hid (new_any W)
    by_cases h : a < 0
    · go_enter Try.func3, Try.ntmps3
      go_wp2_with fail
      refine C0.out.mono ?_
      rintro e w1 ⟨rfl, hT1, bel1⟩
      go_wp2_with fail
      refine (alive_any _).mono ?_
      rintro e w2 ⟨rfl, b2⟩
      go_wp2
      go_ret
      exact ⟨rfl, bel1.trans (b2.mono bel1.size)⟩
    · have h2 : 150 < a := by omega
      clear ho
      go_enter Try.func3, Try.ntmps3
      go_wp2_with fail
      refine C0.out.mono ?_
      rintro e w1 ⟨rfl, hT1, bel1⟩
      go_wp2_with fail
      refine (alive_any _).mono ?_
      rintro e w2 ⟨rfl, b2⟩
      go_wp2
      go_ret
      exact ⟨rfl, bel1.trans (b2.mono bel1.size)⟩
  by_cases ha : a < 0 ∨ 150 < a
  · exact out ha
  obtain ⟨c, rfl⟩ : ∃ c : Nat, a = (c : Int) := ⟨a.toNat, by omega⟩
  have hc : c ≤ 150 := by omega
  by_cases h0 : 1 ≤ s
  · by_cases h1 : s ≤ 1000000
    · by_cases h2 : 0 ≤ t
      · by_cases h3 : t ≤ 1099511627776
        · exact full_yes W c s t hc h0 h1 h2 h3
        · exact full_no3 W c s t hc h0 h1 h2 h3
      · exact full_no2 W c s t hc h0 h1 h2
    · exact full_no1 W c s t hc h0 h1
  · exact full_no0 W c s t hc h0
end Go.Proofs.Ytkgnooogppkieaa
