/- The walk of ParcelsFull. Conditions: none. -/
import Derived.Test.YtejoggbebmmlkaaWj
import Derived.Test.YtejoggbebmmlkaaWi
namespace Go.Proofs.Ytejoggbebmmlkaa
open Go.RowKit Go.ChangeShapes Go.WideShapes Go.ChangeAt
set_option linter.unusedVariables false
set_option linter.unusedSimpArgs false

def full (f : Int) (s : ByteArray) (c : Nat) : List Pk := (List.range c).map fun t : Nat => (f, (t : Int), s)
theorem full_len (f : Int) (s : ByteArray) (c : Nat) : (full f s c).length = c := by simp [full]
theorem full_succ (f : Int) (s : ByteArray) (c : Nat) : full f s (c + 1) = full f s c ++ [(f, (c : Int), s)] := by simp [full, List.range_succ]
theorem full_get (f : Int) (s : ByteArray) (c k : Nat) (h : k < c) : (full f s c)[k]? = some (f, (k : Int), s) := by simp [full, h]

theorem open_pk {H : Type} {enc : TypeId × Value → H} {W : World} {base : Nat} {v : Value} {d : DataW H} {p : List MemPlace} (hv : Value.okWide Try.prog W .any base 27 v) (h : DataW.Trod enc Try.prog W 0 (fun _ => true) true 27 v d p) : ∃ q : Pk, v = pv q := by
  obtain ⟨cs, rfl, hsz⟩ := okWide_struct Try.underlying27 hv
  obtain ⟨fuel, hf⟩ := h
  obtain ⟨q, hq⟩ := shape27 hf (by have : Try.prog.cellsOf 27 = 3 := by kernel_rfl
                                   simpa [Value.cells, this] using hsz)
  refine ⟨q, ?_⟩
  simp only [Value.cells] at hq
  rw [pv]
  congr 1
  apply Array.ext'
  exact hq


set_option maxRecDepth 100000 in
set_option maxHeartbeats 1000000 in
theorem full_big (W : World) (c : Nat) (p : Pk) (hc : 2000 < c ∧ c ≤ 2100) :
    Calls Try.prog 4 #[.int .i64 (c : Int), pv p] W fun e W' => e = .returned (.bool true) ∧ Below W.heap.size W W' := by
  have C0 := Lib.hid (new_net (W.alloc (.cells #[.int .i64 p.1, .int .i64 p.2.1, .string p.2.2] 27)))
  have hX := Lib.hid (Box.new W 27 #[.int .i64 p.1, .int .i64 p.2.1, .string p.2.2])
  unfold pv
  go_enter Try.func4, Try.ntmps4
  go_wp2_with fail
  refine C0.out.mono ?_
  rintro e w1 ⟨rfl, hN1, bel1⟩
  simp only [World.size_alloc] at hN1
  have HN1 := Lib.hid hN1
  have HX1 := Lib.hid (hX.out.below bel1 (by simp))
  have HB1 := Lib.hid (((Below.refl W.heap.size W).alloc (Nat.le_refl _) (.cells #[.int .i64 p.1, .int .i64 p.2.1, .string p.2.2] 27)).trans (bel1.mono (by simp)))
  have hl1 := hN1.box.lt
  clear hN1 bel1 C0 hX
  go_wp2
  go_loopw [26] (fun i wr => ∃ (k : Nat) (v : Value), k ≤ c ∧ i = .int .i64 k ∧ Net wr (W.heap.size + 1) (W.heap.size + 1 + 1) (W.heap.size + 1) v (full p.1 p.2.2 (min k 2000)) [] ∧ Box wr W.heap.size 27 #[.int .i64 p.1, .int .i64 p.2.1, .string p.2.2] ∧ Below W.heap.size W wr) (fun i _ => c - (intOf i).toNat)
  case atStart => exact ⟨0, _, Nat.zero_le _, rfl, HN1.out, HX1.out, HB1.out⟩
  case round =>
    obtain ⟨k, v, hk, rfl, hN, hX, hbel⟩ := hrel
    have HN := Lib.hid hN
    have HX := Lib.hid hX
    have HB := Lib.hid hbel
    have q0 : wr.cell? ⟨W.heap.size, 0, none⟩ = some (.int .i64 p.1) := hX.cell 0
    have q2 : wr.cell? ⟨W.heap.size, 2, none⟩ = some (.string p.2.2) := hX.cell 2
    by_cases hlt : k < c
    · by_cases h2 : k < 2000
      · have C1 := Lib.hid (send_ok (p.1, (k : Int), p.2.2) hN (by have := hN.of_lt _ (.inl rfl); omega) (by rw [full_len]; omega) (by simp))
        unfold pv at C1
        clear hN hX hbel
        go_wp2_with fail
        refine C1.out.mono ?_
        rintro e w2 ⟨rfl, v2, hN2, g2⟩
        rw [show min k 2000 = k by omega, ← full_succ] at hN2
        have HN2 := Lib.hid (show Net w2 (W.heap.size + 1) (W.heap.size + 1 + 1) (W.heap.size + 1) v2 (full p.1 p.2.2 (min (k + 1) 2000)) [] by rw [show min (k + 1) 2000 = k + 1 by omega]; exact hN2)
        have HX2 := Lib.hid (HX.out.touch g2.touch (fun hk => by have := HN.out.of_ge _ hk; omega))
        have HB2 := Lib.hid (g2.below HB.out (Nat.le_refl _) (fun j hj => by have := HN.out.of_ge j hj; omega))
        have h3 : (k : Int) < 2000 := by omega
        clear hN2 g2 C1 q0 q2
        go_wp2
        go_roundw
        case rel => exact ⟨k + 1, v2, by omega, by go_num, HN2.out, HX2.out, HB2.out⟩
        case measure => simp [intOf]; omega
      · have C1 := Lib.hid (send_full (p.1, (k : Int), p.2.2) hN (by rw [full_len]; omega) (by rw [full_len]; omega))
        unfold pv at C1
        clear hN hX hbel
        go_wp2_with fail
        refine C1.out.mono ?_
        rintro e w2 ⟨rfl, b2⟩
        have HN2 := Lib.hid (show Net w2 (W.heap.size + 1) (W.heap.size + 1 + 1) (W.heap.size + 1) v (full p.1 p.2.2 (min (k + 1) 2000)) [] by rw [show min (k + 1) 2000 = min k 2000 by omega]; exact HN.out.below b2 (Nat.le_refl _))
        have HX2 := Lib.hid (HX.out.below b2 HX.out.lt)
        have HB2 := Lib.hid (HB.out.trans (b2.mono HB.out.size))
        have h3 : ¬ (k : Int) < 2000 := by omega
        clear b2 C1 q0 q2
        go_wp2
        go_roundw
        case rel => exact ⟨k + 1, v, by omega, by go_num, HN2.out, HX2.out, HB2.out⟩
        case measure => simp [intOf]; omega
    · obtain rfl : k = c := by omega
      clear hN hX hbel q0 q2
      have hsz := HB.out.size
      have HM := Lib.hid (show min k 2000 = 2000 by omega)
      rw [HM.out] at HN
      have CA := Lib.hid (at_no ((k : Int) - 1) HN.out (.inr (by rw [full_len]; omega)) (by rw [full_len]; omega))
      have d1 : (0 : Int) < (k : Int) := by omega
      have d2 : ¬ (k : Int) ≤ 2000 := by omega
      have d3 : ¬ (k : Int) < 2000 := by omega
      have d4 : ¬ (k : Int) < 0 := by omega
      have d5 : ¬ (2100 : Int) < (k : Int) := by omega
      unfold zeroPk at CA
      go_wp2_with fail
      refine CA.out.mono ?_
      rintro e w2 ⟨rfl, b2⟩
      have HB2 := Lib.hid ((HB.out.trans (b2.mono HB.out.size)).alloc (by have := b2.size; omega) (.cells #[.int .i64 0, .int .i64 0, .string ⟨#[]⟩] 27))
      have HN2 := Lib.hid ((HN.out.below b2 (Nat.le_refl _)).alloc (.cells #[.int .i64 0, .int .i64 0, .string ⟨#[]⟩] 27))
      have HBX := Lib.hid (Box.new w2 27 #[.int .i64 0, .int .i64 0, .string ⟨#[]⟩])
      clear b2 CA
      go_wp2_with fail
      refine (alive_any _).mono ?_
      rintro e w3 ⟨rfl, b3⟩
      have HB3 := Lib.hid (HB2.out.trans (b3.mono HB2.out.size))
      have HN3 := Lib.hid (HN2.out.below b3 (Nat.le_refl _))
      have HX3 := Lib.hid (HBX.out.below b3 HBX.out.lt)
      have r1 : w3.cell? ⟨w2.heap.size, 1, none⟩ = some (.int .i64 0) := HX3.out.cell 1
      clear b3
      go_wp2_with fail
      refine (len_any HN3.out).mono ?_
      rintro e w4 ⟨rfl, rfl⟩
      rw [full_len]
      go_wp2_with fail
      refine (double_full 0 (p.1, ((0 : Nat) : Int), p.2.2) HN3.out (full_get _ _ _ _ (by omega)) (by rw [full_len]; omega) (by rw [full_len]; omega)).mono ?_
      rintro e w5 ⟨rfl, b5⟩
      skip
      go_wp2
      go_ret
      exact ⟨by first | rfl | (simp; done) | (simp; omega), HB3.out.trans (b5.mono HB3.out.size)⟩

set_option maxRecDepth 100000 in
set_option maxHeartbeats 1000000 in
theorem full_zero (W : World) (c : Nat) (p : Pk) (hc : c < 1) :
    Calls Try.prog 4 #[.int .i64 (c : Int), pv p] W fun e W' => e = .returned (.bool true) ∧ Below W.heap.size W W' := by
  have C0 := Lib.hid (new_net (W.alloc (.cells #[.int .i64 p.1, .int .i64 p.2.1, .string p.2.2] 27)))
  have hX := Lib.hid (Box.new W 27 #[.int .i64 p.1, .int .i64 p.2.1, .string p.2.2])
  unfold pv
  go_enter Try.func4, Try.ntmps4
  go_wp2_with fail
  refine C0.out.mono ?_
  rintro e w1 ⟨rfl, hN1, bel1⟩
  simp only [World.size_alloc] at hN1
  have HN1 := Lib.hid hN1
  have HX1 := Lib.hid (hX.out.below bel1 (by simp))
  have HB1 := Lib.hid (((Below.refl W.heap.size W).alloc (Nat.le_refl _) (.cells #[.int .i64 p.1, .int .i64 p.2.1, .string p.2.2] 27)).trans (bel1.mono (by simp)))
  have hl1 := hN1.box.lt
  clear hN1 bel1 C0 hX
  go_wp2
  go_loopw [26] (fun i wr => ∃ (k : Nat) (v : Value), k ≤ c ∧ i = .int .i64 k ∧ Net wr (W.heap.size + 1) (W.heap.size + 1 + 1) (W.heap.size + 1) v (full p.1 p.2.2 (min k 2000)) [] ∧ Box wr W.heap.size 27 #[.int .i64 p.1, .int .i64 p.2.1, .string p.2.2] ∧ Below W.heap.size W wr) (fun i _ => c - (intOf i).toNat)
  case atStart => exact ⟨0, _, Nat.zero_le _, rfl, HN1.out, HX1.out, HB1.out⟩
  case round =>
    obtain ⟨k, v, hk, rfl, hN, hX, hbel⟩ := hrel
    have HN := Lib.hid hN
    have HX := Lib.hid hX
    have HB := Lib.hid hbel
    have q0 : wr.cell? ⟨W.heap.size, 0, none⟩ = some (.int .i64 p.1) := hX.cell 0
    have q2 : wr.cell? ⟨W.heap.size, 2, none⟩ = some (.string p.2.2) := hX.cell 2
    by_cases hlt : k < c
    · omega
    · obtain rfl : k = c := by omega
      clear hN hX hbel q0 q2
      have hsz := HB.out.size
      obtain rfl : k = 0 := by omega
      have CA := Lib.hid (at_no (((0 : Nat) : Int) - 1) HN.out (.inl (by omega)) (by rw [full_len]; omega))
      rw [show min 0 2000 = 0 by omega] at HN
      unfold zeroPk at CA
      go_wp2_with fail
      refine CA.out.mono ?_
      rintro e w2 ⟨rfl, b2⟩
      have HB2 := Lib.hid ((HB.out.trans (b2.mono HB.out.size)).alloc (by have := b2.size; omega) (.cells #[.int .i64 0, .int .i64 0, .string ⟨#[]⟩] 27))
      have HN2 := Lib.hid ((HN.out.below b2 (Nat.le_refl _)).alloc (.cells #[.int .i64 0, .int .i64 0, .string ⟨#[]⟩] 27))
      have HBX := Lib.hid (Box.new w2 27 #[.int .i64 0, .int .i64 0, .string ⟨#[]⟩])
      clear b2 CA
      go_wp2_with fail
      refine (alive_any _).mono ?_
      rintro e w3 ⟨rfl, b3⟩
      have HB3 := Lib.hid (HB2.out.trans (b3.mono HB2.out.size))
      have HN3 := Lib.hid (HN2.out.below b3 (Nat.le_refl _))
      have HX3 := Lib.hid (HBX.out.below b3 HBX.out.lt)
      have r1 : w3.cell? ⟨w2.heap.size, 1, none⟩ = some (.int .i64 0) := HX3.out.cell 1
      clear b3
      go_wp2_with fail
      refine (len_any HN3.out).mono ?_
      rintro e w4 ⟨rfl, rfl⟩
      rw [full_len]
      go_wp2_with fail
      refine (double_none 0 HN3.out (.inr (by rw [full_len]; omega)) (by rw [full_len]; omega)).mono ?_
      rintro e w5 ⟨rfl, b5⟩
      skip
      go_wp2
      go_ret
      exact ⟨by first | rfl | (simp; done) | (simp; omega), HB3.out.trans (b5.mono HB3.out.size)⟩

set_option maxRecDepth 100000 in
set_option maxHeartbeats 1000000 in
theorem full_eq (W : World) (c : Nat) (p : Pk) (hc : 2000 ≤ c ∧ c ≤ 2000) :
    Calls Try.prog 4 #[.int .i64 (c : Int), pv p] W fun e W' => e = .returned (.bool true) ∧ Below W.heap.size W W' := by
  have C0 := Lib.hid (new_net (W.alloc (.cells #[.int .i64 p.1, .int .i64 p.2.1, .string p.2.2] 27)))
  have hX := Lib.hid (Box.new W 27 #[.int .i64 p.1, .int .i64 p.2.1, .string p.2.2])
  unfold pv
  go_enter Try.func4, Try.ntmps4
  go_wp2_with fail
  refine C0.out.mono ?_
  rintro e w1 ⟨rfl, hN1, bel1⟩
  simp only [World.size_alloc] at hN1
  have HN1 := Lib.hid hN1
  have HX1 := Lib.hid (hX.out.below bel1 (by simp))
  have HB1 := Lib.hid (((Below.refl W.heap.size W).alloc (Nat.le_refl _) (.cells #[.int .i64 p.1, .int .i64 p.2.1, .string p.2.2] 27)).trans (bel1.mono (by simp)))
  have hl1 := hN1.box.lt
  clear hN1 bel1 C0 hX
  go_wp2
  go_loopw [26] (fun i wr => ∃ (k : Nat) (v : Value), k ≤ c ∧ i = .int .i64 k ∧ Net wr (W.heap.size + 1) (W.heap.size + 1 + 1) (W.heap.size + 1) v (full p.1 p.2.2 (min k 2000)) [] ∧ Box wr W.heap.size 27 #[.int .i64 p.1, .int .i64 p.2.1, .string p.2.2] ∧ Below W.heap.size W wr) (fun i _ => c - (intOf i).toNat)
  case atStart => exact ⟨0, _, Nat.zero_le _, rfl, HN1.out, HX1.out, HB1.out⟩
  case round =>
    obtain ⟨k, v, hk, rfl, hN, hX, hbel⟩ := hrel
    have HN := Lib.hid hN
    have HX := Lib.hid hX
    have HB := Lib.hid hbel
    have q0 : wr.cell? ⟨W.heap.size, 0, none⟩ = some (.int .i64 p.1) := hX.cell 0
    have q2 : wr.cell? ⟨W.heap.size, 2, none⟩ = some (.string p.2.2) := hX.cell 2
    by_cases hlt : k < c
    · by_cases h2 : k < 2000
      · have C1 := Lib.hid (send_ok (p.1, (k : Int), p.2.2) hN (by have := hN.of_lt _ (.inl rfl); omega) (by rw [full_len]; omega) (by simp))
        unfold pv at C1
        clear hN hX hbel
        go_wp2_with fail
        refine C1.out.mono ?_
        rintro e w2 ⟨rfl, v2, hN2, g2⟩
        rw [show min k 2000 = k by omega, ← full_succ] at hN2
        have HN2 := Lib.hid (show Net w2 (W.heap.size + 1) (W.heap.size + 1 + 1) (W.heap.size + 1) v2 (full p.1 p.2.2 (min (k + 1) 2000)) [] by rw [show min (k + 1) 2000 = k + 1 by omega]; exact hN2)
        have HX2 := Lib.hid (HX.out.touch g2.touch (fun hk => by have := HN.out.of_ge _ hk; omega))
        have HB2 := Lib.hid (g2.below HB.out (Nat.le_refl _) (fun j hj => by have := HN.out.of_ge j hj; omega))
        have h3 : (k : Int) < 2000 := by omega
        clear hN2 g2 C1 q0 q2
        go_wp2
        go_roundw
        case rel => exact ⟨k + 1, v2, by omega, by go_num, HN2.out, HX2.out, HB2.out⟩
        case measure => simp [intOf]; omega
      · omega
    · obtain rfl : k = c := by omega
      clear hN hX hbel q0 q2
      have hsz := HB.out.size
      rw [show min k 2000 = k by omega] at HN
      have CA := Lib.hid (at_yes (k - 1) (p.1, ((k - 1 : Nat) : Int), p.2.2) HN.out (full_get _ _ _ _ (by omega)) (by rw [full_len]; omega))
      rw [show ((k - 1 : Nat) : Int) = (k : Int) - 1 by omega] at CA
      unfold pv at CA
      have d1 : (0 : Int) < (k : Int) := by omega
      have d2 : (k : Int) ≤ 2000 := by omega
      have d3 : ¬ (k : Int) < 2000 := by omega
      have d4 : ¬ (k : Int) < 0 := by omega
      have d5 : ¬ (2100 : Int) < (k : Int) := by omega
      go_wp2_with fail
      refine CA.out.mono ?_
      rintro e w2 ⟨rfl, b2⟩
      have HB2 := Lib.hid ((HB.out.trans (b2.mono HB.out.size)).alloc (by have := b2.size; omega) (.cells #[.int .i64 p.1, .int .i64 ((k : Int) - 1), .string p.2.2] 27))
      have HN2 := Lib.hid ((HN.out.below b2 (Nat.le_refl _)).alloc (.cells #[.int .i64 p.1, .int .i64 ((k : Int) - 1), .string p.2.2] 27))
      have HBX := Lib.hid (Box.new w2 27 #[.int .i64 p.1, .int .i64 ((k : Int) - 1), .string p.2.2])
      clear b2 CA
      go_wp2_with fail
      refine (alive_any _).mono ?_
      rintro e w3 ⟨rfl, b3⟩
      have HB3 := Lib.hid (HB2.out.trans (b3.mono HB2.out.size))
      have HN3 := Lib.hid (HN2.out.below b3 (Nat.le_refl _))
      have HX3 := Lib.hid (HBX.out.below b3 HBX.out.lt)
      have r1 : w3.cell? ⟨w2.heap.size, 1, none⟩ = some (.int .i64 ((k : Int) - 1)) := HX3.out.cell 1
      clear b3
      go_wp2_with fail
      refine (len_any HN3.out).mono ?_
      rintro e w4 ⟨rfl, rfl⟩
      rw [full_len]
      go_wp2_with fail
      refine (double_full 0 (p.1, ((0 : Nat) : Int), p.2.2) HN3.out (full_get _ _ _ _ (by omega)) (by rw [full_len]; omega) (by rw [full_len]; omega)).mono ?_
      rintro e w5 ⟨rfl, b5⟩
      skip
      go_wp2
      go_ret
      exact ⟨by first | rfl | (simp; done) | (simp; omega), HB3.out.trans (b5.mono HB3.out.size)⟩

set_option maxRecDepth 100000 in
set_option maxHeartbeats 1000000 in
theorem full_mid (W : World) (c : Nat) (p : Pk) (hc : 1 ≤ c ∧ c < 2000) :
    Calls Try.prog 4 #[.int .i64 (c : Int), pv p] W fun e W' => e = .returned (.bool true) ∧ Below W.heap.size W W' := by
  have C0 := Lib.hid (new_net (W.alloc (.cells #[.int .i64 p.1, .int .i64 p.2.1, .string p.2.2] 27)))
  have hX := Lib.hid (Box.new W 27 #[.int .i64 p.1, .int .i64 p.2.1, .string p.2.2])
  unfold pv
  go_enter Try.func4, Try.ntmps4
  go_wp2_with fail
  refine C0.out.mono ?_
  rintro e w1 ⟨rfl, hN1, bel1⟩
  simp only [World.size_alloc] at hN1
  have HN1 := Lib.hid hN1
  have HX1 := Lib.hid (hX.out.below bel1 (by simp))
  have HB1 := Lib.hid (((Below.refl W.heap.size W).alloc (Nat.le_refl _) (.cells #[.int .i64 p.1, .int .i64 p.2.1, .string p.2.2] 27)).trans (bel1.mono (by simp)))
  have hl1 := hN1.box.lt
  clear hN1 bel1 C0 hX
  go_wp2
  go_loopw [26] (fun i wr => ∃ (k : Nat) (v : Value), k ≤ c ∧ i = .int .i64 k ∧ Net wr (W.heap.size + 1) (W.heap.size + 1 + 1) (W.heap.size + 1) v (full p.1 p.2.2 (min k 2000)) [] ∧ Box wr W.heap.size 27 #[.int .i64 p.1, .int .i64 p.2.1, .string p.2.2] ∧ Below W.heap.size W wr) (fun i _ => c - (intOf i).toNat)
  case atStart => exact ⟨0, _, Nat.zero_le _, rfl, HN1.out, HX1.out, HB1.out⟩
  case round =>
    obtain ⟨k, v, hk, rfl, hN, hX, hbel⟩ := hrel
    have HN := Lib.hid hN
    have HX := Lib.hid hX
    have HB := Lib.hid hbel
    have q0 : wr.cell? ⟨W.heap.size, 0, none⟩ = some (.int .i64 p.1) := hX.cell 0
    have q2 : wr.cell? ⟨W.heap.size, 2, none⟩ = some (.string p.2.2) := hX.cell 2
    by_cases hlt : k < c
    · by_cases h2 : k < 2000
      · have C1 := Lib.hid (send_ok (p.1, (k : Int), p.2.2) hN (by have := hN.of_lt _ (.inl rfl); omega) (by rw [full_len]; omega) (by simp))
        unfold pv at C1
        clear hN hX hbel
        go_wp2_with fail
        refine C1.out.mono ?_
        rintro e w2 ⟨rfl, v2, hN2, g2⟩
        rw [show min k 2000 = k by omega, ← full_succ] at hN2
        have HN2 := Lib.hid (show Net w2 (W.heap.size + 1) (W.heap.size + 1 + 1) (W.heap.size + 1) v2 (full p.1 p.2.2 (min (k + 1) 2000)) [] by rw [show min (k + 1) 2000 = k + 1 by omega]; exact hN2)
        have HX2 := Lib.hid (HX.out.touch g2.touch (fun hk => by have := HN.out.of_ge _ hk; omega))
        have HB2 := Lib.hid (g2.below HB.out (Nat.le_refl _) (fun j hj => by have := HN.out.of_ge j hj; omega))
        have h3 : (k : Int) < 2000 := by omega
        clear hN2 g2 C1 q0 q2
        go_wp2
        go_roundw
        case rel => exact ⟨k + 1, v2, by omega, by go_num, HN2.out, HX2.out, HB2.out⟩
        case measure => simp [intOf]; omega
      · omega
    · obtain rfl : k = c := by omega
      clear hN hX hbel q0 q2
      have hsz := HB.out.size
      rw [show min k 2000 = k by omega] at HN
      have CA := Lib.hid (at_yes (k - 1) (p.1, ((k - 1 : Nat) : Int), p.2.2) HN.out (full_get _ _ _ _ (by omega)) (by rw [full_len]; omega))
      rw [show ((k - 1 : Nat) : Int) = (k : Int) - 1 by omega] at CA
      unfold pv at CA
      have d1 : (0 : Int) < (k : Int) := by omega
      have d2 : (k : Int) ≤ 2000 := by omega
      have d3 : (k : Int) < 2000 := by omega
      have d4 : ¬ (k : Int) < 0 := by omega
      have d5 : ¬ (2100 : Int) < (k : Int) := by omega
      go_wp2_with fail
      refine CA.out.mono ?_
      rintro e w2 ⟨rfl, b2⟩
      have HB2 := Lib.hid ((HB.out.trans (b2.mono HB.out.size)).alloc (by have := b2.size; omega) (.cells #[.int .i64 p.1, .int .i64 ((k : Int) - 1), .string p.2.2] 27))
      have HN2 := Lib.hid ((HN.out.below b2 (Nat.le_refl _)).alloc (.cells #[.int .i64 p.1, .int .i64 ((k : Int) - 1), .string p.2.2] 27))
      have HBX := Lib.hid (Box.new w2 27 #[.int .i64 p.1, .int .i64 ((k : Int) - 1), .string p.2.2])
      clear b2 CA
      go_wp2_with fail
      refine (alive_any _).mono ?_
      rintro e w3 ⟨rfl, b3⟩
      have HB3 := Lib.hid (HB2.out.trans (b3.mono HB2.out.size))
      have HN3 := Lib.hid (HN2.out.below b3 (Nat.le_refl _))
      have HX3 := Lib.hid (HBX.out.below b3 HBX.out.lt)
      have r1 : w3.cell? ⟨w2.heap.size, 1, none⟩ = some (.int .i64 ((k : Int) - 1)) := HX3.out.cell 1
      clear b3
      go_wp2_with fail
      refine (len_any HN3.out).mono ?_
      rintro e w4 ⟨rfl, rfl⟩
      rw [full_len]
      go_wp2_with fail
      refine (double_ok 0 (p.1, ((0 : Nat) : Int), p.2.2) HN3.out (by have := HB3.out.size; have := HN3.out.of_lt _ (.inl rfl); omega) (full_get _ _ _ _ (by omega)) (by rw [full_len]; omega)).mono ?_
      rintro e w5 ⟨rfl, v5, hN5, g5⟩
      have HB5 := Lib.hid (g5.below HB3.out (Nat.le_refl _) (fun j hj => by have := HN3.out.of_ge j hj; omega))
      clear hN5 g5
      go_wp2
      go_ret
      exact ⟨by first | rfl | (simp; done) | (simp; omega), HB5.out⟩

theorem full_out (W : World) (many : Int) (p : Pk) (hc : many < 0 ∨ 2100 < many) :
    Calls Try.prog 4 #[.int .i64 many, pv p] W fun e W' => e = .returned (.bool true) ∧ Below W.heap.size W W' := by
  have C0 := Lib.hid (new_net (W.alloc (.cells #[.int .i64 p.1, .int .i64 p.2.1, .string p.2.2] 27)))
  unfold pv
  rcases hc with hc | hc
  · go_enter Try.func4, Try.ntmps4
    go_wp2_with fail
    refine C0.out.mono ?_
    rintro e w1 ⟨rfl, hN1, bel1⟩
    go_wp2_with fail
    refine (alive_any _).mono ?_
    rintro e w2 ⟨rfl, bel2⟩
    have hB := ((Below.refl W.heap.size W).alloc (Nat.le_refl _) (.cells #[.int .i64 p.1, .int .i64 p.2.1, .string p.2.2] 27)).trans (bel1.mono (by simp))
    go_wp2
    go_ret
    exact ⟨rfl, hB.trans (bel2.mono hB.size)⟩
  · have hc2 : ¬ many < 0 := by omega
    go_enter Try.func4, Try.ntmps4
    go_wp2_with fail
    refine C0.out.mono ?_
    rintro e w1 ⟨rfl, hN1, bel1⟩
    go_wp2_with fail
    refine (alive_any _).mono ?_
    rintro e w2 ⟨rfl, bel2⟩
    have hB := ((Below.refl W.heap.size W).alloc (Nat.le_refl _) (.cells #[.int .i64 p.1, .int .i64 p.2.1, .string p.2.2] 27)).trans (bel1.mono (by simp))
    go_wp2
    go_ret
    exact ⟨rfl, hB.trans (bel2.mono hB.size)⟩

theorem parcelsFull_walk {H : Type} {enc : TypeId × Value → H} {base : Nat} {p1 : List MemPlace} (W : World) (a0 : Int) (w0 : (Lit.int .i64 a0).wf = true) (v1 : Value) (d1 : DataW H) (hv : Value.okWide Try.prog W .any base 27 v1)
    (h : DataW.Trod enc Try.prog W 0 (fun _ => true) true 27 v1 d1 p1) (_b : ∀ n ∈ d1.weights Try.prog 27, n ≤ 140737488351232) :
    Calls Try.prog 4 #[.int .i64 a0, v1] W fun e W' => e = .returned (.bool true) ∧ Below W.heap.size W W' := by
  obtain ⟨p, rfl⟩ := open_pk hv h
  by_cases ho : a0 < 0 ∨ 2100 < a0
  · exact full_out W a0 p ho
  · obtain ⟨c, rfl⟩ := Int.eq_ofNat_of_zero_le (show 0 ≤ a0 by omega)
    rcases Nat.lt_trichotomy c 2000 with h1 | h1 | h1
    · by_cases h0 : c < 1
      · exact full_zero W c p h0
      · exact full_mid W c p (by omega)
    · exact full_eq W c p (by omega)
    · exact full_big W c p (by omega)
end Go.Proofs.Ytejoggbebmmlkaa
