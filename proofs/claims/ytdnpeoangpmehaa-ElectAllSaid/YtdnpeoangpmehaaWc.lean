/- The walk of alive, and the ticks one by one. Conditions: the timer lies in memory, its numbers are small. -/
import Derived.Test.YtdnpeoangpmehaaWb
namespace Go.Proofs.Ytdnpeoangpmehaa
open Go.RowKit

/-- the limit behind a wish to lead. -/
def nextLim (s m lim : Nat) : Nat := if lim + s * (m + 2) ≤ 1000000 then lim + s * (m + 2) else lim

section
variable {s m wt lim b : Nat}
theorem tick_wait (hs : Small s m wt lim) (h : wt + 1 < lim) (w : World) (hb : Box w b 46 (cells s m wt lim)) :
    Calls Try.prog 11 #[.pointer (some ⟨b, 0, none⟩), .bool false] w fun e w' => e = .returned (.tuple #[.bool false, .bool false]) ∧ Box w' b 46 (cells s m (wt + 1) lim) ∧ Touch (· = b) w w' := by
  have := tick_any false hs w hb
  rw [show tick false s m wt lim = (false, false, wt + 1, lim) by simp [tick]; omega] at this
  exact this
theorem tick_lead (hs : Small s m wt lim) (h : lim ≤ wt + 1) (w : World) (hb : Box w b 46 (cells s m wt lim)) :
    Calls Try.prog 11 #[.pointer (some ⟨b, 0, none⟩), .bool false] w fun e w' => e = .returned (.tuple #[.bool true, .bool false]) ∧ Box w' b 46 (cells s m 0 (nextLim s m lim)) ∧ Touch (· = b) w w' := by
  have := tick_any false hs w hb
  rw [show tick false s m wt lim = (true, false, 0, nextLim s m lim) by simp [tick, nextLim, h]] at this
  exact this
theorem tick_nudge (hs : Small s m wt lim) (h : s ≤ wt + 1) (w : World) (hb : Box w b 46 (cells s m wt lim)) :
    Calls Try.prog 11 #[.pointer (some ⟨b, 0, none⟩), .bool true] w fun e w' => e = .returned (.tuple #[.bool false, .bool true]) ∧ Box w' b 46 (cells s m 0 lim) ∧ Touch (· = b) w w' := by
  have := tick_any true hs w hb
  rw [show tick true s m wt lim = (false, true, 0, lim) by simp [tick, h]] at this
  exact this
theorem tick_still (hs : Small s m wt lim) (h : wt + 1 < s) (w : World) (hb : Box w b 46 (cells s m wt lim)) :
    Calls Try.prog 11 #[.pointer (some ⟨b, 0, none⟩), .bool true] w fun e w' => e = .returned (.tuple #[.bool false, .bool false]) ∧ Box w' b 46 (cells s m (wt + 1) lim) ∧ Touch (· = b) w w' := by
  have := tick_any true hs w hb
  rw [show tick true s m wt lim = (false, false, wt + 1, lim) by simp [tick]; omega] at this
  exact this
end

/-- a new timer, in a world of which no more need be known. -/
theorem new_box {self many span : Nat} (h : okMember self many span) (w : World) :
    Calls Try.prog 9 #[.int .i64 self, .int .i64 many, .int .i64 span] w fun e w' => e = .returned (.tuple #[.pointer (some ⟨w.heap.size, 0, none⟩), .int .i64 0]) ∧
      Box w' w.heap.size 46 (cells span many 0 (span * (self + 2))) ∧ Below w.heap.size w w' := by
  refine (new_ok self many span h w).mono ?_
  rintro e w' ⟨rfl, rfl⟩
  refine ⟨rfl, ?_, (Below.refl _ _).alloc (Nat.le_refl _) _⟩
  have := Box.new w 46 (cells span many 0 (span * (self + 2)))
  unfold cells at this ⊢
  simpa using this

theorem alive_any (w : World) : Calls Try.prog 10 #[] w fun e w' => e = .returned (.bool true) ∧ Below w.heap.size w w' := by
  go_enter Try.func10, Try.ntmps10
  go_wp2_with fail
  refine (new_box (self := 1) (many := 3) (span := 2) (by unfold okMember; omega) w).mono ?_
  rintro e w1 ⟨rfl, hb1, ht1⟩
  have hb1 : Box w1 w.heap.size 46 (cells 2 3 0 6) := hb1
  have HB := Lib.hid hb1
  clear hb1
  go_wp2_with fail
  refine (limit_any w1 HB.out).mono ?_
  rintro e w2 ⟨rfl, rfl⟩
  go_wp2
  go_loopw [22] (fun i wr => ∃ k : Nat, k ≤ 5 ∧ i = .int .i64 k ∧ Box wr w.heap.size 46 (cells 2 3 k 6) ∧ Below w.heap.size w wr) (fun i _ => 5 - (intOf i).toNat)
  case atStart => exact ⟨0, Nat.zero_le _, rfl, HB.out, ht1⟩
  case round =>
    obtain ⟨k, hk, rfl, hb, hbel⟩ := hrel
    by_cases hlt : k < 5
    · have C := Lib.hid (tick_wait (s := 2) (m := 3) (wt := k) (lim := 6) (by unfold Small; omega) (by omega) wr hb)
      clear hb
      go_wp2_with (go_at_call 11; refine C.out.mono ?_; rintro e w3 ⟨rfl, hb3, ht3⟩)
      go_roundw
      case rel => exact ⟨k + 1, by omega, by go_num, hb3, Below.touch hbel ht3 (Nat.le_refl _) (by rintro j rfl; exact Nat.le_refl _)⟩
      case measure => simp [intOf]; omega
    · obtain rfl : k = 5 := by omega
      have C := Lib.hid (tick_lead (s := 2) (m := 3) (wt := 5) (lim := 6) (by unfold Small; omega) (by omega) wr hb)
      clear hb
      go_wp2_with fail
      refine C.out.mono ?_
      rintro e w3 ⟨rfl, hb3, ht3⟩
      have HB3 := Lib.hid hb3
      clear hb3
      go_wp2_with fail
      refine (wait_any w3 HB3.out).mono ?_
      rintro e w4 ⟨rfl, rfl⟩
      go_wp2
      go_ret
      exact ⟨rfl, Below.touch hbel ht3 (Nat.le_refl _) (by rintro j rfl; exact Nat.le_refl _)⟩
end Go.Proofs.Ytdnpeoangpmehaa
