/- watcher: the document's before, touches. Conditions: none. -/
import Derived.Test.YtmcjpochpmiipaaDoorVh
namespace Go.Proofs.YtmcjpochpmiipaaDoor
open Go Go.RowKit Zn
set_option linter.unusedVariables false
set_option linter.unusedSimpArgs false
variable {w w' : World} {base n : Nat} {v : Value} {L : List Wt}

theorem before_any (a b : Wt) (w : World) : Calls Tryd.prog 22 #[tv a, tv b] w fun e w' => e = .returned (.bool (decide (Lt a b))) ∧ Below w.heap.size w w' := by
  have HR := Lib.hid ((((Below.refl w.heap.size w).alloc (Nat.le_refl _) (.cells #[.int .i64 a.1, .string a.2.1, .bool a.2.2] 29)).alloc (by simp) (.cells #[.int .i64 b.1, .string b.2.1, .bool b.2.2] 29)))
  obtain ⟨a0, s, p⟩ := a
  obtain ⟨b0, t, q⟩ := b
  unfold tv
  simp only at HR ⊢
  by_cases h1 : a0 = b0
  rotate_left
  · have hE : (a0 != b0) = true := by simpa using h1
    have hL : decide (Lt (a0, s, p) (b0, t, q)) = decide (a0 < b0) := by simp [Lt, h1]
    rw [hL]
    clear hL
    go_enter Tryd.func22, Tryd.ntmps22
    go_wp2
    go_ret
    exact ⟨rfl, HR.out⟩
  subst h1
  have hE : (a0 != a0) = false := by simp
  by_cases h2 : s.toList = t.toList
  rotate_left
  · have hF : (s.toList != t.toList) = true := by simpa using h2
    have hF2 : (s.toList == t.toList) = false := by simpa using h2
    have hL : decide (Lt (a0, s, p) (a0, t, q)) = Op.bytesLess s.toList t.toList := by simp [Lt, h2, blt]
    rw [hL]
    clear hL
    go_enter Tryd.func22, Tryd.ntmps22
    go_wp2
    go_ret
    exact ⟨rfl, HR.out⟩
  have hF : (s.toList != t.toList) = false := by simpa using h2
  have hF2 : (s.toList == t.toList) = true := by simpa using h2
  have hL : decide (Lt (a0, s, p) (a0, t, q)) = (!p && q) := by
    have : ¬ t.toList < t.toList := List.lt_irrefl _
    simp [Lt, h2]
    cases p <;> cases q <;> simp [this]
  rw [hL]
  clear hL
  cases p <;> cases q
  · go_enter Tryd.func22, Tryd.ntmps22
    go_wp2
    go_ret
    exact ⟨rfl, HR.out⟩
  · go_enter Tryd.func22, Tryd.ntmps22
    go_wp2
    go_ret
    exact ⟨rfl, HR.out⟩
  · go_enter Tryd.func22, Tryd.ntmps22
    go_wp2
    go_ret
    exact ⟨rfl, HR.out⟩
  · go_enter Tryd.func22, Tryd.ntmps22
    go_wp2
    go_ret
    exact ⟨rfl, HR.out⟩
theorem rtouches_any (e : Ev) (p : Wt) (w : World) : Calls Tryd.prog 42 #[ev e, tv p] w fun r w' => r = .returned (.bool (touchB e.2.1 e.2.2 p)) ∧ Below w.heap.size w w' := by
  have HR := Lib.hid ((((Below.refl w.heap.size w).alloc (Nat.le_refl _) (.cells #[.int .i64 e.1, .int .i64 e.2.1, .string e.2.2] 36)).alloc (by simp) (.cells #[.int .i64 p.1, .string p.2.1, .bool p.2.2] 29)))
  obtain ⟨e0, k, s⟩ := e
  obtain ⟨p0, t, q⟩ := p
  unfold ev tv
  simp only [touchB]
  simp only at HR
  by_cases hs : s.toList = t.toList
  rotate_left
  · have hE : (s.toList == t.toList) = false := by simpa using hs
    rw [hE]
    go_enter Tryd.func42, Tryd.ntmps42
    go_wp2
    go_ret
    exact ⟨rfl, HR.out⟩
  have hE : (s.toList == t.toList) = true := by simpa using hs
  rw [hE]
  cases q
  · by_cases h1 : 1 ≤ k
    rotate_left
    · have k2 : (k == 2) = false := by simp; omega
      have k1 : (k == 1) = false := by simp; omega
      have k3 : (k == 3) = false := by simp; omega
      rw [k1, k2, k3]
      go_enter Tryd.func42, Tryd.ntmps42
      go_wp2
      go_ret
      exact ⟨by simp, HR.out⟩
    by_cases h3 : k ≤ 3
    rotate_left
    · have k2 : (k == 2) = false := by simp; omega
      have k1 : (k == 1) = false := by simp; omega
      have k3 : (k == 3) = false := by simp; omega
      rw [k1, k2, k3]
      go_enter Tryd.func42, Tryd.ntmps42
      go_wp2
      go_ret
      exact ⟨by simp, HR.out⟩
    have hL : (true && (k == 2 || k == 4 && false || (k == 1 || k == 3) && !false)) = true := by
      have : k = 1 ∨ k = 2 ∨ k = 3 := by omega
      rcases this with rfl | rfl | rfl <;> rfl
    rw [hL]
    go_enter Tryd.func42, Tryd.ntmps42
    go_wp2
    go_ret
    exact ⟨rfl, HR.out⟩
  · by_cases h4 : k = 4
    · subst h4
      go_enter Tryd.func42, Tryd.ntmps42
      go_wp2
      go_ret
      exact ⟨rfl, HR.out⟩
    have k4 : (k == 4) = false := by simpa using h4
    by_cases h2 : k = 2
    · subst h2
      go_enter Tryd.func42, Tryd.ntmps42
      go_wp2
      go_ret
      exact ⟨rfl, HR.out⟩
    have k2 : (k == 2) = false := by simpa using h2
    rw [k4, k2]
    go_enter Tryd.func42, Tryd.ntmps42
    go_wp2
    go_ret
    exact ⟨by simp, HR.out⟩
end Go.Proofs.YtmcjpochpmiipaaDoor
