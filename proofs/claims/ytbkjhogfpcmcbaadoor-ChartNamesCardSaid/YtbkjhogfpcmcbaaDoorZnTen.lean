/- zname: a number in ten digits, plain. Conditions: none (no program). -/
import Derived.Test.YtbkjhogfpcmcbaaDoorZnMath
namespace Go.Proofs.YtbkjhogfpcmcbaaDoor.Zn
set_option linter.unusedVariables false
set_option linter.unusedSimpArgs false

def dig (n : Nat) : UInt8 := UInt8.ofNat (48 + n % 10)
def tenR : Nat → Nat → Nm
  | 0, _ => []
  | k + 1, n => tenR k (n / 10) ++ [dig n]
def val (l : Nm) : Nat := l.foldl (fun v c => 10 * v + (c.toNat - 48)) 0
theorem dig_nat (n : Nat) : (dig n).toNat = 48 + n % 10 := by
  unfold dig; rw [UInt8.toNat_ofNat']; omega
theorem tenR_len (k n : Nat) : (tenR k n).length = k := by
  induction k generalizing n with
  | zero => rfl
  | succ k ih => simp [tenR, ih]
theorem tenR_front (k n : Nat) : tenR (k + 1) n = dig (n / 10 ^ k) :: tenR k n := by
  induction k generalizing n with
  | zero => simp [tenR]
  | succ k ih =>
    rw [tenR, ih (n / 10), List.cons_append, Nat.div_div_eq_div_mul, ← Nat.pow_succ']
    rfl
theorem val_snoc (l : Nm) (c : UInt8) : val (l ++ [c]) = 10 * val l + (c.toNat - 48) := by simp [val, List.foldl_append]
theorem val_ten (k n : Nat) : val (tenR k n) = n % 10 ^ k := by
  induction k generalizing n with
  | zero => simp [tenR, val, Nat.mod_one]
  | succ k ih =>
    rw [tenR, val_snoc, ih, dig_nat, Nat.add_sub_cancel_left, Nat.pow_succ, Nat.mul_comm (10 ^ k) 10, Nat.mod_mul]
    omega
theorem ten_digits (k n : Nat) : ∀ c ∈ tenR k n, 48 ≤ c.toNat ∧ c.toNat ≤ 57 := by
  induction k generalizing n with
  | zero => intro c hc; cases hc
  | succ k ih =>
    intro c hc
    rw [tenR] at hc
    rcases List.mem_append.1 hc with hc | hc
    · exact ih _ c hc
    · simp at hc; subst hc; rw [dig_nat]; omega
theorem ten_inj {k n m : Nat} (hn : n < 10 ^ k) (hm : m < 10 ^ k) (h : tenR k n = tenR k m) : n = m := by
  have a := val_ten k n
  have b := val_ten k m
  rw [h, b, Nat.mod_eq_of_lt hn, Nat.mod_eq_of_lt hm] at a
  exact a.symm
theorem tenR_mod (k n : Nat) : tenR k (n % 10 ^ k) = tenR k n := by
  induction k generalizing n with
  | zero => rfl
  | succ k ih =>
    have e : n % 10 ^ (k + 1) / 10 = n / 10 % 10 ^ k := by
      rw [Nat.pow_succ, Nat.mul_comm (10 ^ k) 10, Nat.mod_mul_right_div_self]
    have d : dig (n % 10 ^ (k + 1)) = dig n := by
      unfold dig
      rw [Nat.pow_succ, Nat.mod_mul_left_mod]
    rw [tenR, tenR, e, ih, d]
open Go.Op (bytesLess)
theorem less_app (p x y : Nm) : bytesLess (p ++ x) (p ++ y) = bytesLess x y := by
  induction p with
  | nil => rfl
  | cons c p ih => simp [bytesLess, ih]
theorem less_ten (k n m : Nat) (hn : n < 10 ^ k) (hm : m < 10 ^ k) : bytesLess (tenR k n) (tenR k m) = decide (n < m) := by
  induction k generalizing n m with
  | zero => simp at hn hm; subst hn; subst hm; rfl
  | succ k ih =>
    have hk : 0 < 10 ^ k := Nat.pow_pos (by omega)
    have a1 : n / 10 ^ k < 10 := Nat.div_lt_of_lt_mul (by rw [Nat.pow_succ] at hn; exact hn)
    have b1 : m / 10 ^ k < 10 := Nat.div_lt_of_lt_mul (by rw [Nat.pow_succ] at hm; exact hm)
    have a2 := Nat.mod_lt n hk
    have b2 := Nat.mod_lt m hk
    have a3 := Nat.div_add_mod n (10 ^ k)
    have b3 := Nat.div_add_mod m (10 ^ k)
    rw [tenR_front, tenR_front, bytesLess, ← tenR_mod k n, ← tenR_mod k m, ih _ _ a2 b2]
    have e1 : (dig (n / 10 ^ k) < dig (m / 10 ^ k)) ↔ n / 10 ^ k < m / 10 ^ k := by
      rw [UInt8.lt_iff_toNat_lt, dig_nat, dig_nat, Nat.mod_eq_of_lt a1, Nat.mod_eq_of_lt b1]; omega
    have e2 : (dig (n / 10 ^ k) == dig (m / 10 ^ k)) = decide (n / 10 ^ k = m / 10 ^ k) := by
      rw [Bool.eq_iff_iff, beq_iff_eq, decide_eq_true_eq, ← UInt8.toNat_inj, dig_nat, dig_nat, Nat.mod_eq_of_lt a1, Nat.mod_eq_of_lt b1]; omega
    rw [e2, Bool.eq_iff_iff]
    simp only [Bool.or_eq_true, decide_eq_true_eq, Bool.and_eq_true, e1]
    generalize n / 10 ^ k = x at *
    generalize m / 10 ^ k = y at *
    generalize n % 10 ^ k = r at *
    generalize m % 10 ^ k = s at *
    generalize 10 ^ k = t at *
    constructor
    · rintro (h | ⟨rfl, h⟩)
      · have : t * (x + 1) ≤ t * y := Nat.mul_le_mul_left t h
        rw [Nat.mul_add] at this; omega
      · omega
    · intro h
      rcases Nat.lt_trichotomy x y with h1 | h1 | h1
      · exact .inl h1
      · subst h1; exact .inr ⟨rfl, by omega⟩
      · have : t * (y + 1) ≤ t * x := Nat.mul_le_mul_left t h1
        rw [Nat.mul_add] at this; omega
def numOk (p : Nm) (n : Int) : Bool := !(p == [47]) && validZ p && decide (0 ≤ n) && decide (n ≤ 9999999999) && validZ (p ++ tenR 10 n.toNat)
def numZ (p : Nm) (n : Int) : Nm := if numOk p n then p ++ tenR 10 n.toNat else []
end Go.Proofs.YtbkjhogfpcmcbaaDoor.Zn
