/- The walks of TallyZeros and TallyTwice. Conditions: none. -/
import Derived.Test.YtncjnalpfhafpaaWh
import Derived.Deep.RegionWith
namespace Go.Proofs.Ytncjnalpfhafpaa
open Go.RowKit

theorem run_bytes (N : Nat) (hN : N ≤ 5000) (u : World) : (Instr.makeSlice 22 (.int .i64 (N : Int)) (.int .i64 (N : Int))).run Try.prog u =
    .ok (.slice (some ⟨u.heap.size, 0, none⟩) N N) (u.alloc (.cells (madeCells #[.int .u8 0] N) 5)) := by
  obtain ⟨i0, hi, hz0, hz1, hz2⟩ := info_parts info5
  have h := run_make (P := Try.prog) u 22 5 i0 (.int .u8 0) Try.underlying22 hi hz0 .i64 .i64 (N : Int) (N : Int) (by omega) (Int.le_refl _) (by rw [hz2]; omega) (by omega)
  simpa [hz1, Value.cells] using h
theorem bytes_made (N : Nat) (hN : N ≤ 5000) (u : World) : Bytes (u.alloc (.cells (madeCells #[.int .u8 0] N) 5)) (some ⟨u.heap.size, 0, none⟩) N (List.replicate N 0) := by
  have := bytes_new u (madeCells #[.int .u8 0] N) 5 (0, 0) (List.replicate N 0) (by
    apply Array.ext'
    rw [toList_madeCells_one]; simp) (by simp) (by unfold maxLen; simp; omega)
  simpa using this
theorem zeros_law (c : BitVec 32) (N : Nat) : com (Tally.stn (8 * N) (com c)) = Tally.more c (List.replicate N 0) := by
  unfold Tally.more
  rw [Tally.run_zeros]; rfl

set_option maxHeartbeats 800000 in
theorem tallyZeros_walk (W : World) (c : Int) (wc : (Lit.int .u32 c).wf = true) (n : Int) (wn : (Lit.int .i64 n).wf = true) :
    Calls Try.prog 8 #[.int .u32 c, .int .i64 n] W fun e W' => e = .returned (.bool true) ∧ Below W.heap.size W W' := by
  obtain ⟨c, rfl⟩ := bv_of_wf wc
  by_cases hbig : n > 5000
  · go_enter Try.func8, Try.ntmps8
    go_wp2_with fail
    refine (alive_any _).mono ?_
    rintro e w1 ⟨rfl, hb1⟩
    go_wp2_with fail
    go_ret
    exact ⟨rfl, hb1⟩
  obtain ⟨N, hN, hcase⟩ : ∃ N : Nat, Hid (n.toNat = N ∧ N ≤ 5000) ∧ Hid ((n < 0 ∧ N = 0) ∨ n = (N : Int)) := by
    refine ⟨n.toNat, ⟨rfl, by omega⟩, ?_⟩
    by_cases h : n < 0
    · exact .inl ⟨h, by omega⟩
    · exact .inr (by omega)
  have HM := Lib.hid (bytes_made N hN.out.2)
  have hz := zeros_any c n wn
  rw [hN.out.1, zeros_law] at hz
  have HZ := Lib.hid hz
  clear hz wn
  go_enter Try.func8, Try.ntmps8
  go_wp2
  rcases hcase.out with ⟨h0, h1⟩ | h0
  · subst h1
    have hmk : ∀ u : World, (Instr.makeSlice 22 (.int .i64 0) (.int .i64 0)).run Try.prog u = .ok (.slice (some ⟨u.heap.size, 0, none⟩) 0 0) (u.alloc (.cells (madeCells #[.int .u8 0] 0) 5)) := run_bytes 0 (by omega)
    go_region_with (first
      | (go_at_call 10; refine (alive_any _).mono ?_; rintro e w1 ⟨rfl, hb1⟩)
      | (go_at_call 15; refine (HZ.out _).mono ?_; rintro e w2 ⟨rfl, hb2⟩)
      | (go_at_call 14; refine (rmore_any c _ _ _ (List.replicate 0 0) _ (by first | exact HM.out _ | exact (HM.out _).below hb2)).mono ?_; rintro e w3 ⟨rfl, rfl⟩))
    all_goals
      go_wp2
      go_ret
      refine ⟨rfl, ?_⟩
      have hb0 : Below W.heap.size W w1 := (Below.refl W.heap.size W).drew.trans hb1
      first
        | exact (hb0.trans (hb2.mono hb0.size)).alloc (Nat.le_trans hb0.size hb2.size) _
        | exact (hb0.alloc hb0.size _).trans (hb2.mono (Nat.le_trans hb0.size (by simp)))
  · subst h0
    have hmk := run_bytes N hN.out.2
    go_region_with (first
      | (go_at_call 10; refine (alive_any _).mono ?_; rintro e w1 ⟨rfl, hb1⟩)
      | (go_at_call 15; refine (HZ.out _).mono ?_; rintro e w2 ⟨rfl, hb2⟩)
      | (go_at_call 14; refine (rmore_any c _ _ _ (List.replicate N 0) _ (by first | exact HM.out _ | exact (HM.out _).below hb2)).mono ?_; rintro e w3 ⟨rfl, rfl⟩))
    all_goals
      go_wp2
      go_ret
      refine ⟨rfl, ?_⟩
      have hb0 : Below W.heap.size W w1 := (Below.refl W.heap.size W).drew.trans hb1
      first
        | exact (hb0.trans (hb2.mono hb0.size)).alloc (Nat.le_trans hb0.size hb2.size) _
        | exact (hb0.alloc hb0.size _).trans (hb2.mono (Nat.le_trans hb0.size (by simp)))
theorem twice_law (c : BitVec 32) (n m : Nat) : com (Tally.stn (8 * m) (com (com (Tally.stn (8 * n) (com c))))) = com (Tally.stn (8 * (n + m)) (com c)) := by
  have : ∀ x, com (com x) = x := fun x => BitVec.not_not
  rw [this, ← Tally.stn_add, Nat.mul_add]

theorem tallyTwice_walk (W : World) (c : Int) (wc : (Lit.int .u32 c).wf = true) (n : Int) (wn : (Lit.int .i64 n).wf = true) (m : Int) (wm : (Lit.int .i64 m).wf = true) :
    Calls Try.prog 9 #[.int .u32 c, .int .i64 n, .int .i64 m] W fun e W' => e = .returned (.bool true) ∧ Below W.heap.size W W' := by
  obtain ⟨c, rfl⟩ := bv_of_wf wc
  by_cases hbad : n < 0 ∨ m < 0 ∨ n > 1099511627776 ∨ m > 1099511627776
  · have key : ∀ x : Nat, True := fun _ => trivial
    clear key wn wm
    by_cases h1 : n < 0
    · clear hbad
      go_enter Try.func9, Try.ntmps9
      go_wp2_with fail
      refine (alive_any _).mono ?_
      rintro e w1 ⟨rfl, hb1⟩
      go_wp2_with fail
      go_ret
      exact ⟨rfl, hb1⟩
    by_cases h2 : m < 0
    · clear hbad
      go_enter Try.func9, Try.ntmps9
      go_wp2_with fail
      refine (alive_any _).mono ?_
      rintro e w1 ⟨rfl, hb1⟩
      go_wp2_with fail
      go_ret
      exact ⟨rfl, hb1⟩
    by_cases h3 : n > 1099511627776
    · clear hbad
      go_enter Try.func9, Try.ntmps9
      go_wp2_with fail
      refine (alive_any _).mono ?_
      rintro e w1 ⟨rfl, hb1⟩
      go_wp2_with fail
      go_ret
      exact ⟨rfl, hb1⟩
    have h4 : m > 1099511627776 := by omega
    clear hbad
    go_enter Try.func9, Try.ntmps9
    go_wp2_with fail
    refine (alive_any _).mono ?_
    rintro e w1 ⟨rfl, hb1⟩
    go_wp2_with fail
    go_ret
    exact ⟨rfl, hb1⟩
  · obtain ⟨a, rfl⟩ := Int.eq_ofNat_of_zero_le (show 0 ≤ n by omega)
    obtain ⟨b, rfl⟩ := Int.eq_ofNat_of_zero_le (show 0 ≤ m by omega)
    have h3 : a ≤ 1099511627776 := by omega
    have h4 : b ≤ 1099511627776 := by omega
    have z1 := Lib.hid (fun w => zeros_any c a wn w)
    obtain ⟨d, hd⟩ : ∃ d, d = com (Tally.stn (8 * (a : Int).toNat) (com c)) := ⟨_, rfl⟩
    rw [← hd] at z1
    have z2 := Lib.hid (fun w => zeros_any d b wm w)
    have wab : (Lit.int .i64 ((a : Int) + (b : Int))).wf = true := WalkArith.wf_i64 (by omega)
    have z3 := Lib.hid (fun w => zeros_any c ((a : Int) + (b : Int)) wab w)
    have HL : Hid (com (Tally.stn (8 * ((a : Int) + (b : Int)).toNat) (com c)) = com (Tally.stn (8 * (b : Int).toNat) (com d))) := by
      rw [hd, Int.toNat_natCast, Int.toNat_natCast, twice_law, show ((a : Int) + (b : Int)).toNat = a + b by omega]
      exact rfl
    rw [HL.out] at z3
    generalize com (Tally.stn (8 * (b : Int).toNat) (com d)) = r at z2 z3
    clear hbad wn wm wab hd HL wc
    go_enter Try.func9, Try.ntmps9
    go_wp2_with fail
    refine (alive_any _).mono ?_
    rintro e w1 ⟨rfl, hb1⟩
    go_wp2_with fail
    refine (z1.out _).mono ?_
    rintro e w2 ⟨rfl, hb2⟩
    go_wp2_with fail
    refine (z2.out _).mono ?_
    rintro e w3 ⟨rfl, hb3⟩
    go_wp2_with fail
    refine (z3.out _).mono ?_
    rintro e w4 ⟨rfl, hb4⟩
    go_wp2_with fail
    go_ret
    have h12 := hb1.trans (hb2.mono hb1.size)
    have h13 := h12.trans (hb3.mono h12.size)
    exact ⟨rfl, h13.trans (hb4.mono h13.size)⟩
end Go.Proofs.Ytncjnalpfhafpaa
