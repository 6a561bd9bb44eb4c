/- The walks of the document's timer: New, Tick. Conditions: its numbers are small. -/
import Derived.Test.YtdnpeoangpmehaaWg
namespace Go.Proofs.Ytdnpeoangpmehaa
open Go.RowKit

/-- the document's timer as a value. -/
def rv (s m wt lim : Nat) : Value := .agg #[.int .i64 m, .int .i64 s, .int .i64 wt, .int .i64 lim]

theorem rnew_ok {self many span : Nat} (h : okMember self many span) (w : World) :
    Calls Try.prog 12 #[.int .i64 self, .int .i64 many, .int .i64 span] w fun e w' => e = .returned (.tuple #[rv span many 0 (span * (self + 2)), .int .i64 0]) ∧ Below w.heap.size w w' := by
  obtain ⟨h1, h2, h3, h4, h5⟩ := h
  have hq := qr_pos h1 h2 h3
  have hmul : span * (self + 2) ≤ 9000 := Nat.le_trans (Nat.mul_le_mul (show span ≤ 1000 by omega) (show self + 2 ≤ 9 by omega)) (by omega)
  have hmi : (span : Int) * ((self : Int) + 2) = ((span * (self + 2) : Nat) : Int) := by simp
  obtain ⟨l, hl⟩ : ∃ l, l = span * (self + 2) := ⟨_, rfl⟩
  rw [← hl] at hmul hmi
  have HL := Lib.hid hl
  clear hl
  go_enter Try.func12, Try.ntmps12
  go_wp2_with (go_at_call 20; refine (rquorum_any _ _).mono ?_; rintro e w' ⟨rfl, rfl⟩)
  refine bodyPost_ret (v := .tuple #[rv span many 0 (span * (self + 2)), .int .i64 0]) (by rw [← HL.out]; simp [results, Try.results12, go_sem, rv]) rfl ⟨rfl, ?_⟩
  exact (Below.refl _ _).alloc (Nat.le_refl _) _

theorem rnew_bad (self many span : Int) (h : ¬ okMember self many span) (w : World) :
    Calls Try.prog 12 #[.int .i64 self, .int .i64 many, .int .i64 span] w fun e w' => e = .returned (.tuple #[rv 0 0 0 0, .int .i64 1]) ∧ Below w.heap.size w w' := by
  by_cases hq : (qr many == 0) = true
  · clear h
    go_enter Try.func12, Try.ntmps12
    go_wp2_with (go_at_call 20; refine (rquorum_any _ _).mono ?_; rintro e w' ⟨rfl, rfl⟩)
    exact bodyPost_ret (v := .tuple #[rv 0 0 0 0, .int .i64 1]) (by simp [results, Try.results12, go_sem, rv]) rfl ⟨rfl, (Below.refl _ _).alloc (Nat.le_refl _) _⟩
  have hm : 1 ≤ many ∧ many ≤ 7 := by
    unfold qr at hq
    split at hq
    · assumption
    · simp at hq
  have hq' : (qr many == 0) = false := by simpa using hq
  clear hq
  by_cases h1 : self < 0
  · clear h hm
    go_enter Try.func12, Try.ntmps12
    go_wp2_with (go_at_call 20; refine (rquorum_any _ _).mono ?_; rintro e w' ⟨rfl, rfl⟩)
    exact bodyPost_ret (v := .tuple #[rv 0 0 0 0, .int .i64 1]) (by simp [results, Try.results12, go_sem, rv]) rfl ⟨rfl, (Below.refl _ _).alloc (Nat.le_refl _) _⟩
  by_cases h2 : self ≥ many
  · clear h hm
    go_enter Try.func12, Try.ntmps12
    go_wp2_with (go_at_call 20; refine (rquorum_any _ _).mono ?_; rintro e w' ⟨rfl, rfl⟩)
    exact bodyPost_ret (v := .tuple #[rv 0 0 0 0, .int .i64 1]) (by simp [results, Try.results12, go_sem, rv]) rfl ⟨rfl, (Below.refl _ _).alloc (Nat.le_refl _) _⟩
  by_cases h3 : span < 1
  · clear h hm
    go_enter Try.func12, Try.ntmps12
    go_wp2_with (go_at_call 20; refine (rquorum_any _ _).mono ?_; rintro e w' ⟨rfl, rfl⟩)
    exact bodyPost_ret (v := .tuple #[rv 0 0 0 0, .int .i64 1]) (by simp [results, Try.results12, go_sem, rv]) rfl ⟨rfl, (Below.refl _ _).alloc (Nat.le_refl _) _⟩
  have h4 : span > 1000 := by
    unfold okMember at h; omega
  clear h hm
  go_enter Try.func12, Try.ntmps12
  go_wp2_with (go_at_call 20; refine (rquorum_any _ _).mono ?_; rintro e w' ⟨rfl, rfl⟩)
  exact bodyPost_ret (v := .tuple #[rv 0 0 0 0, .int .i64 1]) (by simp [results, Try.results12, go_sem, rv]) rfl ⟨rfl, (Below.refl _ _).alloc (Nat.le_refl _) _⟩

theorem rtick_any (leads : Bool) {s m wt lim : Nat} (hs : Small s m wt lim) (w : World) :
    Calls Try.prog 14 #[rv s m wt lim, .bool leads] w fun e w' => e = .returned (.tuple #[rv s m (tick leads s m wt lim).2.2.1 (tick leads s m wt lim).2.2.2, .bool (tick leads s m wt lim).1, .bool (tick leads s m wt lim).2.1]) ∧
      Below w.heap.size w w' := by
  obtain ⟨s0, s1, m1, t1, l0, l1⟩ := hs
  unfold rv
  cases leads with
  | true =>
    by_cases h : s ≤ wt + 1
    · have HT : Hid (tick true s m wt lim = (false, true, 0, lim)) := by show _ = _; simp [tick, h]
      have h1 : ¬ (wt : Int) + 1 < (s : Int) := by omega
      go_enter Try.func14, Try.ntmps14
      go_wp2
      rw [HT.out]
      exact bodyPost_ret (v := .tuple #[rv s m 0 lim, .bool false, .bool true]) (by simp [results, Try.results14, go_sem, rv]) rfl ⟨rfl, ((Below.refl _ _).alloc (Nat.le_refl _) _).alloc (by simp) _⟩
    · have HT : Hid (tick true s m wt lim = (false, false, wt + 1, lim)) := by show _ = _; simp [tick, h]
      have h1 : (wt : Int) + 1 < (s : Int) := by omega
      go_enter Try.func14, Try.ntmps14
      go_wp2
      rw [HT.out]
      exact bodyPost_ret (v := .tuple #[rv s m (wt + 1) lim, .bool false, .bool false]) (by simp [results, Try.results14, go_sem, rv]) rfl ⟨rfl, ((Below.refl _ _).alloc (Nat.le_refl _) _).alloc (by simp) _⟩
  | false =>
    by_cases h : lim ≤ wt + 1
    · have h1 : ¬ (wt : Int) + 1 < (lim : Int) := by omega
      have hmul : s * (m + 2) ≤ 9000 := Nat.le_trans (Nat.mul_le_mul s1 (show m + 2 ≤ 9 by omega)) (by omega)
      have hmi : (s : Int) * ((m : Int) + 2) = ((s * (m + 2) : Nat) : Int) := by simp
      obtain ⟨p, hp⟩ : ∃ p, p = s * (m + 2) := ⟨_, rfl⟩
      rw [← hp] at hmul hmi
      by_cases h2 : lim + p ≤ 1000000
      · have HT : Hid (tick false s m wt lim = (true, false, 0, lim + p)) := by show _ = _; simp [tick, h, ← hp, h2]
        have h3 : (lim : Int) + (p : Int) ≤ 1000000 := by omega
        clear hp
        go_enter Try.func14, Try.ntmps14
        go_wp2
        rw [HT.out]
        exact bodyPost_ret (v := .tuple #[rv s m 0 (lim + p), .bool true, .bool false]) (by simp [results, Try.results14, go_sem, rv]) rfl ⟨rfl, ((Below.refl _ _).alloc (Nat.le_refl _) _).alloc (by simp) _⟩
      · have HT : Hid (tick false s m wt lim = (true, false, 0, lim)) := by show _ = _; simp [tick, h, ← hp, h2]
        have h3 : ¬ (lim : Int) + (p : Int) ≤ 1000000 := by omega
        clear hp
        go_enter Try.func14, Try.ntmps14
        go_wp2
        rw [HT.out]
        exact bodyPost_ret (v := .tuple #[rv s m 0 lim, .bool true, .bool false]) (by simp [results, Try.results14, go_sem, rv]) rfl ⟨rfl, ((Below.refl _ _).alloc (Nat.le_refl _) _).alloc (by simp) _⟩
    · have HT : Hid (tick false s m wt lim = (false, false, wt + 1, lim)) := by show _ = _; simp [tick, h]
      have h1 : (wt : Int) + 1 < (lim : Int) := by omega
      go_enter Try.func14, Try.ntmps14
      go_wp2
      rw [HT.out]
      exact bodyPost_ret (v := .tuple #[rv s m (wt + 1) lim, .bool false, .bool false]) (by simp [results, Try.results14, go_sem, rv]) rfl ⟨rfl, ((Below.refl _ _).alloc (Nat.le_refl _) _).alloc (by simp) _⟩
end Go.Proofs.Ytdnpeoangpmehaa
