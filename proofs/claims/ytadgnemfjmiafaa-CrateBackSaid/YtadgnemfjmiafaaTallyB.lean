/- The walk of the sum of the reference: what it returns. Conditions: the bytes lie in memory. -/
import Derived.Test.YtadgnemfjmiafaaTallyA
namespace Go.Proofs.Ytadgnemfjmiafaa
open Go.RowKit

theorem stn_step (n : Nat) (c : BitVec 32) : Tally.stn n (Tally.st c) = Tally.stn (n + 1) c := rfl

theorem rmore_any (c : BitVec 32) (a : Option Addr) (len cap : Nat) (zs : List Int) (w : World) (hB : Bytes w a len zs) :
    Calls Try.prog 25 #[.int .u32 c.toNat, .slice a len cap] w fun e w' => e = .returned (.int .u32 (Tally.more c zs).toNat) ∧ w = w' := by
  have hm := hB.2.2.1
  unfold maxLen at hm
  have hx := com_sub
  have hcl := c.isLt
  go_enter Try.func25, Try.ntmps25
  go_wp2
  go_loop [0, 5] (fun c' i => ∃ k : Nat, k ≤ len ∧ i = .int .i64 k ∧ c' = .int .u32 (Tally.run (com c) (zs.take k)).toNat) (fun _ i => len - (intOf i).toNat)
  case atStart => exact ⟨0, Nat.zero_le _, rfl, rfl⟩
  case round =>
    obtain ⟨k, hk, rfl, rfl⟩ := hrel
    by_cases hlt : k < len
    · obtain ⟨b, off, x, rfl, hck, r0, r1, ht⟩ := hB.at k hlt
      have HT := Lib.hid ht
      have hmix := mix_eq
      obtain ⟨d, hd⟩ : ∃ d, d = Tally.run (com c) (zs.take k) := ⟨_, rfl⟩
      rw [← hd]
      have HD := Lib.hid hd
      clear hx ht hd hB
      go_wp2
      go_loop [0, 6] (fun c' i => ∃ j : Nat, j ≤ 8 ∧ i = .int .i64 j ∧ c' = .int .u32 (Tally.stn j (mix d x)).toNat) (fun _ i => 8 - (intOf i).toNat)
      case atStart => exact ⟨0, Nat.zero_le _, rfl, rfl⟩
      case round =>
        obtain ⟨j, hj, rfl, rfl⟩ := hrel
        by_cases hlt2 : j < 8
        · go_wp2_with (go_at_call 26; refine (step_any _ _).mono ?_; rintro e w' ⟨rfl, rfl⟩)
          go_round
          case rel => exact ⟨j + 1, by omega, by go_num, by rw [Tally.stn_succ]⟩
          case measure => simp [intOf]; omega
        · obtain rfl : j = 8 := by omega
          go_wp2
          go_round
          case rel => exact ⟨k + 1, by omega, by go_num, by rw [HT.out, Tally.run_snoc, ← HD.out]; rfl⟩
          case measure => simp [intOf]; omega
    · obtain rfl : k = len := by omega
      have HR : Hid (com (Tally.run (com c) (zs.take k)) = Tally.more c zs) := by
        have := hB.1
        rw [List.take_of_length_le (by omega)]; exact rfl
      have hlt3 := (Tally.run (com c) (zs.take k)).isLt
      go_wp2
      go_ret
      exact ⟨by rw [← HR.out]; rfl, rfl⟩
end Go.Proofs.Ytadgnemfjmiafaa
