/- The document's leases: clock, right. Conditions: none. -/
import Derived.Test.YtkgnooogppkieaaLn
namespace Go.Proofs.Ytkgnooogppkieaa
open Go.RowKit
set_option linter.unusedVariables false
set_option linter.unusedSimpArgs false

theorem rclock_any (t : Int) (w : World) : Calls Try.prog 35 #[.int .i64 t] w fun e w' => e = .returned (.bool (decide (0 ≤ t) && decide (t ≤ 1099511627776))) ∧ w = w' := by
  by_cases h : 0 ≤ t
  · have h1 : decide (0 ≤ t) = true := by simpa using h
    rw [h1]
    go_enter Try.func35, Try.ntmps35
    go_wp2
    go_ret
    exact ⟨by simp, rfl⟩
  · have h1 : decide (0 ≤ t) = false := by simpa using h
    rw [h1]
    go_enter Try.func35, Try.ntmps35
    go_wp2
    go_ret
    exact ⟨by simp, rfl⟩
theorem rright_any (p : Lz) (w : World) : Calls Try.prog 36 #[tv p] w fun e w' => e = .returned (.bool (rightB p)) ∧ Below w.heap.size w w' := by
  have hX := Lib.hid (Box.new w 46 #[.int .i64 p.1, .int .i64 p.2.1, .int .i64 p.2.2])
  unfold tv
  by_cases h0 : 1 ≤ p.1
  rotate_left
  · have hr : rightB p = false := by simp [rightB]; omega
    rw [hr]
    clear hr
    go_enter Try.func36, Try.ntmps36
    go_wp2
    go_ret
    exact ⟨rfl, (Below.refl _ _).alloc (Nat.le_refl _) _⟩
  by_cases h1 : p.1 ≤ 4611686018427387904
  rotate_left
  · have hr : rightB p = false := by simp [rightB]; omega
    rw [hr]
    clear hr
    go_enter Try.func36, Try.ntmps36
    go_wp2
    go_ret
    exact ⟨rfl, (Below.refl _ _).alloc (Nat.le_refl _) _⟩
  by_cases h2 : 1 ≤ p.2.1
  rotate_left
  · have hr : rightB p = false := by simp [rightB]; omega
    rw [hr]
    clear hr
    go_enter Try.func36, Try.ntmps36
    go_wp2
    go_ret
    exact ⟨rfl, (Below.refl _ _).alloc (Nat.le_refl _) _⟩
  by_cases h3 : p.2.1 ≤ 1000000
  rotate_left
  · have hr : rightB p = false := by simp [rightB]; omega
    rw [hr]
    clear hr
    go_enter Try.func36, Try.ntmps36
    go_wp2
    go_ret
    exact ⟨rfl, (Below.refl _ _).alloc (Nat.le_refl _) _⟩
  have hr : rightB p = (decide (0 ≤ p.2.2) && decide (p.2.2 ≤ 1099511627776)) := by simp [rightB, h0, h1, h2, h3]
  obtain ⟨q, hq⟩ : ∃ q, (decide (0 ≤ p.2.2) && decide (p.2.2 ≤ 1099511627776)) = q := ⟨_, rfl⟩
  have C1 := Lib.hid (rclock_any p.2.2 (w.alloc (.cells #[.int .i64 p.1, .int .i64 p.2.1, .int .i64 p.2.2] 46)))
  rw [hr]
  rw [hq] at C1 ⊢
  clear hr hq
  go_enter Try.func36, Try.ntmps36
  go_wp2_with fail
  refine C1.out.mono ?_
  rintro e w1 ⟨rfl, rfl⟩
  go_wp2
  go_ret
  exact ⟨rfl, (Below.refl _ _).alloc (Nat.le_refl _) _⟩

end Go.Proofs.Ytkgnooogppkieaa
