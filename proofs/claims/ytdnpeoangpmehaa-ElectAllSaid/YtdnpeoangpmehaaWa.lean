/- The walks of elect's timer, and of the document's: New, Tick, Heard, Wait, Limit. Conditions: the timer lies in memory, its numbers are small. -/
import Derived.Test.YtdnpeoangpmehaaRows
import Derived.Test.YtdnpeoangpmehaaTouch
import Derived.WalkKit
import Derived.WalkSpells
import Derived.WalkLawsBesides
import Derived.Lib.Hide
namespace Go.Proofs.Ytdnpeoangpmehaa
open Go.RowKit

/-- the quorum of a group; 0: there is none of that size. -/
def qr (m : Int) : Int := if 1 ≤ m ∧ m ≤ 7 then m / 2 + 1 else 0

theorem group_any (m : Int) (w : World) : Calls Try.prog 23 #[.int .i64 m] w fun e w' => e = .returned (.bool (decide (1 ≤ m ∧ m ≤ 7))) ∧ w = w' := by
  by_cases h : 1 ≤ m ∧ m ≤ 7
  · have hd : decide (1 ≤ m ∧ m ≤ 7) = true := by simpa using h
    rw [hd]
    obtain ⟨h1, h2⟩ := h
    clear hd
    go_enter Try.func23, Try.ntmps23
    go_wp2
    go_ret
    exact ⟨rfl, rfl⟩
  · have hd : decide (1 ≤ m ∧ m ≤ 7) = false := by simpa using h
    rw [hd]
    clear hd
    by_cases h1 : 1 ≤ m
    · have h2 : ¬ m ≤ 7 := fun h2 => h ⟨h1, h2⟩
      clear h
      go_enter Try.func23, Try.ntmps23
      go_wp2
      go_ret
      exact ⟨rfl, rfl⟩
    · clear h
      go_enter Try.func23, Try.ntmps23
      go_wp2
      go_ret
      exact ⟨rfl, rfl⟩

theorem quorum_any (m : Int) (w : World) : Calls Try.prog 19 #[.int .i64 m] w fun e w' => e = .returned (.int .i64 (qr m)) ∧ w = w' := by
  unfold qr
  by_cases h : 1 ≤ m ∧ m ≤ 7
  · rw [if_pos h]
    have G := Lib.hid (group_any m w)
    rw [show decide (1 ≤ m ∧ m ≤ 7) = true by simpa using h] at G
    obtain ⟨h1, h2⟩ := h
    go_enter Try.func19, Try.ntmps19
    go_wp2_with (go_at_call 23; refine G.out.mono ?_; rintro e w' ⟨rfl, rfl⟩)
    go_ret
    exact ⟨rfl, rfl⟩
  · rw [if_neg h]
    have G := Lib.hid (group_any m w)
    rw [show decide (1 ≤ m ∧ m ≤ 7) = false by simpa using h] at G
    clear h
    go_enter Try.func19, Try.ntmps19
    go_wp2_with (go_at_call 23; refine G.out.mono ?_; rintro e w' ⟨rfl, rfl⟩)
    go_ret
    exact ⟨rfl, rfl⟩

theorem rquorum_any (m : Int) (w : World) : Calls Try.prog 20 #[.int .i64 m] w fun e w' => e = .returned (.int .i64 (qr m)) ∧ w = w' := by
  unfold qr
  by_cases h : 1 ≤ m ∧ m ≤ 7
  · rw [if_pos h]
    obtain ⟨h1, h2⟩ := h
    obtain ⟨k, rfl⟩ := Int.eq_ofNat_of_zero_le (show 0 ≤ m by omega)
    go_enter Try.func20, Try.ntmps20
    go_wp2
    go_loop [3] (fun i => ∃ n : Nat, 1 ≤ n ∧ n ≤ k / 2 + 1 ∧ i = .int .i64 n) (fun i => k / 2 + 1 - (intOf i).toNat)
    case atStart => exact ⟨1, by omega, by omega, rfl⟩
    case round =>
      obtain ⟨n, hn1, hn2, rfl⟩ := hrel
      by_cases hlt : n ≤ k / 2
      · have h3 : 2 * (n : Int) ≤ k := by omega
        go_wp2
        go_round
        case rel => exact ⟨n + 1, by omega, by omega, by go_num⟩
        case measure => simp [intOf]; omega
      · have h3 : ¬ 2 * (n : Int) ≤ k := by omega
        have HE : Hid ((n : Int) = (k : Int) / 2 + 1) := show (n : Int) = (k : Int) / 2 + 1 by omega
        go_wp2
        go_ret
        exact ⟨by rw [← HE.out]; rfl, rfl⟩
  · rw [if_neg h]
    by_cases h1 : 1 ≤ m
    · have h2 : ¬ m ≤ 7 := fun h2 => h ⟨h1, h2⟩
      clear h
      go_enter Try.func20, Try.ntmps20
      go_wp2
      go_ret
      exact ⟨rfl, rfl⟩
    · clear h
      go_enter Try.func20, Try.ntmps20
      go_wp2
      go_ret
      exact ⟨rfl, rfl⟩

/-- may there be such a member? -/
def okMember (self many span : Int) : Prop := 0 ≤ self ∧ self < many ∧ many ≤ 7 ∧ 1 ≤ span ∧ span ≤ 1000

theorem qr_pos {many self : Int} (h1 : 0 ≤ self) (h2 : self < many) (h3 : many ≤ 7) : (qr many == 0) = false := by
  unfold qr; rw [if_pos ⟨by omega, h3⟩]; simp; omega

theorem new_ok (self many span : Int) (h : okMember self many span) (w : World) :
    Calls Try.prog 9 #[.int .i64 self, .int .i64 many, .int .i64 span] w fun e w' => e = .returned (.tuple #[.pointer (some ⟨w.heap.size, 0, none⟩), .int .i64 0]) ∧
      w' = w.alloc (.cells #[.int .i64 span, .int .i64 many, .int .i64 0, .int .i64 (span * (self + 2))] 46) := by
  obtain ⟨h1, h2, h3, h4, h5⟩ := h
  have hq := qr_pos h1 h2 h3
  have hmul : 0 ≤ span * (self + 2) ∧ span * (self + 2) ≤ 9000 := by
    constructor
    · exact Int.mul_nonneg (by omega) (by omega)
    · have := Int.mul_le_mul (a := span) (b := self + 2) (c := 1000) (d := 9) h5 (by omega) (by omega) (by omega)
      omega
  obtain ⟨m0, m1⟩ := hmul
  go_enter Try.func9, Try.ntmps9
  go_wp2_with (go_at_call 19; refine (quorum_any _ _).mono ?_; rintro e w' ⟨rfl, rfl⟩)
  go_ret2
  exact ⟨rfl, rfl⟩

theorem new_bad (self many span : Int) (h : ¬ okMember self many span) (w : World) :
    Calls Try.prog 9 #[.int .i64 self, .int .i64 many, .int .i64 span] w fun e w' => e = .returned (.tuple #[.pointer none, .int .i64 1]) ∧ w = w' := by
  by_cases hq : (qr many == 0) = true
  · clear h
    go_enter Try.func9, Try.ntmps9
    go_wp2_with (go_at_call 19; refine (quorum_any _ _).mono ?_; rintro e w' ⟨rfl, rfl⟩)
    go_ret2
    exact ⟨rfl, rfl⟩
  have hm : 1 ≤ many ∧ many ≤ 7 := by
    unfold qr at hq
    split at hq
    · assumption
    · simp at hq
  have hq' : (qr many == 0) = false := by simpa using hq
  clear hq
  by_cases h1 : self < 0
  · clear h hm
    go_enter Try.func9, Try.ntmps9
    go_wp2_with (go_at_call 19; refine (quorum_any _ _).mono ?_; rintro e w' ⟨rfl, rfl⟩)
    go_ret2
    exact ⟨rfl, rfl⟩
  by_cases h2 : self ≥ many
  · clear h hm
    go_enter Try.func9, Try.ntmps9
    go_wp2_with (go_at_call 19; refine (quorum_any _ _).mono ?_; rintro e w' ⟨rfl, rfl⟩)
    go_ret2
    exact ⟨rfl, rfl⟩
  by_cases h3 : span < 1
  · clear h hm
    go_enter Try.func9, Try.ntmps9
    go_wp2_with (go_at_call 19; refine (quorum_any _ _).mono ?_; rintro e w' ⟨rfl, rfl⟩)
    go_ret2
    exact ⟨rfl, rfl⟩
  have h4 : span > 1000 := by
    unfold okMember at h; omega
  clear h hm
  go_enter Try.func9, Try.ntmps9
  go_wp2_with (go_at_call 19; refine (quorum_any _ _).mono ?_; rintro e w' ⟨rfl, rfl⟩)
  go_ret2
  exact ⟨rfl, rfl⟩
end Go.Proofs.Ytdnpeoangpmehaa
