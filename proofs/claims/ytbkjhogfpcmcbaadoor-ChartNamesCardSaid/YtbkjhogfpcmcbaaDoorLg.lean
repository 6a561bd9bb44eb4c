/- chart: numbers in decimal, plain. Conditions: none (no program). -/
import Derived.Test.YtbkjhogfpcmcbaaDoorKp
import Derived.Lib.ItoaNum
namespace Go.Proofs.YtbkjhogfpcmcbaaDoor
open Go Go.RowKit Zn
set_option linter.unusedVariables false
set_option linter.unusedSimpArgs false
open Go.Lib (decDigits)
theorem dec_small {n : Nat} (h : n < 10) : decDigits n = [UInt8.ofNat (48 + n)] := by rw [decDigits, dif_pos h]
theorem dec_big {n : Nat} (h : ¬ n < 10) : decDigits n = decDigits (n / 10) ++ [UInt8.ofNat (48 + n % 10)] := by rw [decDigits, dif_neg h]
theorem dec_c (m : Nat) (h : m < 10) : (UInt8.ofNat (48 + m)).toNat = 48 + m := by rw [UInt8.toNat_ofNat']; omega
theorem dec_digC (m : Nat) (h : m < 10) : digC (UInt8.ofNat (48 + m)) = true := by
  unfold digC
  rw [dec_c m h, decide_eq_true (by omega), decide_eq_true (by omega)]; rfl
theorem dec_all : ∀ n : Nat, digs (decDigits n) = true ∧ val (decDigits n) = n ∧ decDigits n ≠ [] := by
  intro n
  induction n using Nat.strongRecOn with
  | ind n ih =>
    by_cases h : n < 10
    · rw [dec_small h]
      refine ⟨?_, ?_, by simp⟩
      · show (digC _ && true) = true
        rw [dec_digC n h]; rfl
      · show 10 * 0 + ((UInt8.ofNat (48 + n)).toNat - 48) = n
        rw [dec_c n h]; omega
    · obtain ⟨h1, h2, h3⟩ := ih (n / 10) (by omega)
      rw [dec_big h]
      have hm : n % 10 < 10 := Nat.mod_lt _ (by omega)
      refine ⟨by rw [digs_snoc, h1, dec_digC _ hm]; rfl, ?_, by simp⟩
      rw [val_snoc, h2, dec_c _ hm]; omega
theorem dec_head : ∀ n : Nat, 1 ≤ n → (decDigits n).head? ≠ some 48 := by
  intro n
  induction n using Nat.strongRecOn with
  | ind n ih =>
    intro h1
    by_cases h : n < 10
    · rw [dec_small h]
      intro e
      have e2 : UInt8.ofNat (48 + n) = 48 := by simpa using e
      have := congrArg UInt8.toNat e2
      rw [dec_c n h] at this
      have h48 : (48 : UInt8).toNat = 48 := rfl
      omega
    · have := ih (n / 10) (by omega) (by omega)
      rw [dec_big h]
      cases hd : decDigits (n / 10) with
      | nil => exact absurd hd (dec_all _).2.2
      | cons x t => rw [hd] at this; exact this
theorem dec_len : ∀ (k n : Nat), n < 10 ^ (k + 1) → (decDigits n).length ≤ k + 1 := by
  intro k
  induction k with
  | zero => intro n h; rw [dec_small (by simpa using h)]; simp
  | succ k ih =>
    intro n h
    by_cases h9 : n < 10
    · rw [dec_small h9]; simp
    · rw [dec_big h9, List.length_append]
      have := ih (n / 10) (Nat.div_lt_of_lt_mul (by rw [Nat.pow_succ, Nat.mul_comm] at h; exact h))
      simp; omega
theorem val_app_ge (a b : Nm) : val a ≤ val (a ++ b) := by
  have H : ∀ r : Nm, val a ≤ val (a ++ r.reverse) := by
    intro r
    induction r with
    | nil => simp
    | cons c r ih => rw [List.reverse_cons, ← List.append_assoc, val_snoc]; omega
  have := H b.reverse
  simpa using this
theorem val_take_le (l : Nm) (k : Nat) : val (l.take k) ≤ val l := by
  have := val_app_ge (l.take k) (l.drop k)
  rwa [List.take_append_drop] at this
theorem val_next {l : Nm} {k : Nat} {c : UInt8} (h : l[k]? = some c) : val (l.take (k + 1)) = 10 * val (l.take k) + (c.toNat - 48) := by
  rw [List.take_add_one, h]; exact val_snoc _ _
theorem val_pos {c : UInt8} {t : Nm} (h : digs (c :: t) = true) (hc : c ≠ 48) : 1 ≤ val (c :: t) := by
  have h1 : digC c = true := by unfold digs at h; rw [List.all_cons, Bool.and_eq_true] at h; exact h.1
  have h2 := val_app_ge [c] t
  have h3 : val [c] = c.toNat - 48 := by show 10 * 0 + _ = _; omega
  unfold digC at h1
  simp only [Bool.and_eq_true, decide_eq_true_eq] at h1
  have h4 : c.toNat ≠ 48 := fun e => hc (UInt8.toNat_inj.1 (by rw [e]; rfl))
  rw [List.singleton_append] at h2
  omega
/-- a text of digits with no nought ahead is the numeral of its number. -/
theorem dec_of {l : Nm} (hd : digs l = true) (hne : l ≠ []) (h0 : l.head? ≠ some 48 ∨ l = [48]) : decDigits (val l) = l := by
  have H : ∀ r : Nm, digs r.reverse = true → r.reverse ≠ [] → (r.reverse.head? ≠ some 48 ∨ r.reverse = [48]) → decDigits (val r.reverse) = r.reverse := by
    intro r
    induction r with
    | nil => intro _ h; exact absurd rfl h
    | cons c r ih =>
      intro hd _ h0
      rw [List.reverse_cons] at hd h0 ⊢
      rw [digs_snoc, Bool.and_eq_true] at hd
      obtain ⟨h1, h2⟩ := hd
      have h2' := h2
      unfold digC at h2'
      simp only [Bool.and_eq_true, decide_eq_true_eq] at h2'
      have hcc : UInt8.ofNat (48 + (c.toNat - 48)) = c := UInt8.toNat_inj.1 (by rw [dec_c _ (by omega)]; omega)
      cases hr : r.reverse with
      | nil =>
        rw [List.nil_append]
        have : val [c] = c.toNat - 48 := by show 10 * 0 + _ = _; omega
        rw [this, dec_small (by omega), hcc]
      | cons x t =>
        rw [hr] at ih h0 h1
        have hx : x ≠ 48 := by
          rintro rfl
          rcases h0 with h0 | h0
          · exact h0 rfl
          · have := congrArg List.length h0
            simp at this
        have hp := val_pos h1 hx
        have ih := ih h1 (by simp) (.inl (by simpa using hx))
        rw [val_snoc, dec_big (by omega)]
        have e1 : (10 * val (x :: t) + (c.toNat - 48)) / 10 = val (x :: t) := by omega
        have e2 : (10 * val (x :: t) + (c.toNat - 48)) % 10 = c.toNat - 48 := by omega
        rw [e1, e2, ih, hcc]
  have := H l.reverse (by simpa using hd) (by simpa using hne) (by simpa using h0)
  simpa using this
/-- is a text a number in decimal, up to 2^62? -/
def numB (l : Nm) : Bool := digs l && decide (l = decDigits (val l)) && decide (val l ≤ 4611686018427387904)
def numV (l : Nm) : Int := if numB l then ((val l : Nat) : Int) else -1
def num0 (l : Nm) : Int := if numB l then ((val l : Nat) : Int) else 0
theorem num_nil : numB [] = false := by
  unfold numB
  rw [decide_eq_false (fun h => (dec_all _).2.2 h.symm)]; rfl
theorem num_lead {t : Nm} (h : t ≠ []) : numB (48 :: t) = false := by
  unfold numB
  rw [decide_eq_false, Bool.and_false, Bool.false_and]
  intro e
  rcases Nat.eq_zero_or_pos (val (48 :: t)) with h0 | h0
  · rw [h0, dec_small (by omega)] at e
    exact h (List.cons.inj e).2
  · have := dec_head _ h0
    rw [← e] at this
    exact this rfl
theorem num_long {l : Nm} (h : 19 < l.length) : numB l = false := by
  by_cases hv : val l ≤ 4611686018427387904
  · unfold numB
    rw [decide_eq_false (p := l = _), Bool.and_false, Bool.false_and]
    intro e
    have := dec_len 18 (val l) (by omega)
    rw [← e] at this
    omega
  · unfold numB
    rw [decide_eq_false hv, Bool.and_false]
theorem num_big {l : Nm} {k : Nat} (h : 4611686018427387904 < val (l.take k)) : numB l = false := by
  have := val_take_le l k
  unfold numB
  rw [decide_eq_false (by omega : ¬ val l ≤ _), Bool.and_false]
theorem num_big10 {l : Nm} {k : Nat} {c : UInt8} (hc : l[k]? = some c) (h : 461168601842738790 < val (l.take k)) : numB l = false := num_big (k := k + 1) (by rw [val_next hc]; omega)
theorem num_dig {l : Nm} (h : digs l = false) : numB l = false := by unfold numB; rw [h]; rfl
theorem num_fin {l : Nm} (hd : digs l = true) (hne : l ≠ []) (h0 : l.head? ≠ some 48 ∨ l = [48]) : numB l = decide (val l ≤ 4611686018427387904) := by
  unfold numB
  rw [hd, decide_eq_true (dec_of hd hne h0).symm]; rfl
theorem num_eq {l : Nm} (hd : digs l = true) (hv : val l ≤ 4611686018427387904) : numB l = decide (l = decDigits (val l)) := by
  unfold numB
  rw [hd, decide_eq_true hv, Bool.true_and, Bool.and_true]
theorem num_dec {n : Nat} (h : n ≤ 4611686018427387904) : numB (decDigits n) = true := by
  obtain ⟨h1, h2, _⟩ := dec_all n
  rw [num_eq h1 (by omega), h2]; simp
theorem digs_next {l : Nm} {k : Nat} {c : UInt8} (hk : l[k]? = some c) (h : digs (l.take k) = true) (hc : digC c = true) : digs (l.take (k + 1)) = true := by
  rw [List.take_add_one, hk]
  exact (digs_snoc _ _).trans (by rw [h, hc]; rfl)
end Go.Proofs.YtbkjhogfpcmcbaaDoor
