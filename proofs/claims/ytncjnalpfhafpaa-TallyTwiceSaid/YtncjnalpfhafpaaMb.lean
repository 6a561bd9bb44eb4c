/- The plain law of TallyBursts: what turned bits in a window of thirty-two do to a sum. No program in sight. -/
import Derived.Test.YtncjnalpfhafpaaMath
namespace Tally

/-- does bit number i of a turn turn one of the text's n bits, the window beginning at 'at'? -/
def hits (turn : BitVec 32) (n pos i : Nat) : Bool := turn.getLsbD i && decide (pos + i < n)

/-- the text behind i rounds. -/
def turnedText (turn : BitVec 32) (zs : List Int) (pos : Nat) : Nat → List Int
  | 0 => zs
  | i + 1 => let x := turnedText turn zs pos i
    if hits turn (8 * zs.length) pos i then x.set ((pos + i) / 8) (((x.getD ((pos + i) / 8) 0).toNat ^^^ 2 ^ ((pos + i) % 8) : Nat) : Int) else x
/-- whether any bit was turned within i rounds. -/
def anyHit (turn : BitVec 32) (n pos : Nat) : Nat → Bool
  | 0 => false
  | i + 1 => anyHit turn n pos i || hits turn n pos i

theorem turned_length (turn : BitVec 32) (zs : List Int) (pos i : Nat) : (turnedText turn zs pos i).length = zs.length := by
  induction i with
  | zero => rfl
  | succ i ih => unfold turnedText; simp only; split <;> simp [ih]
theorem turned_range (turn : BitVec 32) (zs : List Int) (hz : ∀ n ∈ zs, 0 ≤ n ∧ n < 256) (pos i : Nat) : ∀ n ∈ turnedText turn zs pos i, 0 ≤ n ∧ n < 256 := by
  induction i with
  | zero => exact hz
  | succ i ih =>
    unfold turnedText; simp only
    split
    · rename_i hh
      intro n hn
      rcases List.mem_or_eq_of_mem_set hn with h | rfl
      · exact ih n h
      · have hj : (pos + i) / 8 < (turnedText turn zs pos i).length := by
          rw [turned_length]
          simp only [hits, Bool.and_eq_true, decide_eq_true_eq] at hh
          omega
        have hm : (turnedText turn zs pos i).getD ((pos + i) / 8) 0 ∈ turnedText turn zs pos i := by
          rw [show (turnedText turn zs pos i).getD ((pos + i) / 8) 0 = (turnedText turn zs pos i)[(pos + i) / 8] by simp [hj]]
          exact List.getElem_mem hj
        have := ih _ hm
        have h2 : (2 : Nat) ^ ((pos + i) % 8) < 2 ^ 8 := Nat.pow_lt_pow_right (by omega) (by omega)
        have := Nat.xor_lt_two_pow (n := 8) (x := ((turnedText turn zs pos i).getD ((pos + i) / 8) 0).toNat) (y := 2 ^ ((pos + i) % 8)) (by omega) h2
        omega
    · exact ih

theorem turned_run (turn : BitVec 32) (zs : List Int) (hz : ∀ n ∈ zs, 0 ≤ n ∧ n < 256) (c : BitVec 32) (pos i : Nat) :
    run c (turnedText turn zs pos (i + 1)) = run c (turnedText turn zs pos i) ^^^ (if hits turn (8 * zs.length) pos i then stn (8 * zs.length - (pos + i)) 1#32 else 0#32) := by
  rw [turnedText]
  split
  · rename_i hh
    have hj : (pos + i) / 8 < (turnedText turn zs pos i).length := by
      rw [turned_length]
      simp only [hits, Bool.and_eq_true, decide_eq_true_eq] at hh
      omega
    have hm : 0 ≤ (turnedText turn zs pos i).getD ((pos + i) / 8) 0 := by
      rw [show (turnedText turn zs pos i).getD ((pos + i) / 8) 0 = (turnedText turn zs pos i)[(pos + i) / 8] by simp [hj]]
      exact (turned_range turn zs hz pos i _ (List.getElem_mem hj)).1
    rw [run_turn c _ _ _ hj (by omega) hm, turned_length]
    congr 2
    omega
  · simp

theorem bursts (turn : BitVec 32) (zs : List Int) (hz : ∀ n ∈ zs, 0 ≤ n ∧ n < 256) (pos : Nat) (h : anyHit turn (8 * zs.length) pos 32 = true) : sum (turnedText turn zs pos 32) ≠ sum zs := by
  intro he
  have he' : run (~~~ 0#32) (turnedText turn zs pos 32) = run (~~~ 0#32) zs := by
    have := congrArg (fun x => ~~~ x) he
    simpa [sum, more] using this
  generalize (~~~ 0#32 : BitVec 32) = c at he'
  -- the window's length
  have hpos : pos < 8 * zs.length := by
    rcases Nat.lt_or_ge pos (8 * zs.length) with h' | h'
    · exact h'
    · exfalso
      have : ∀ i, anyHit turn (8 * zs.length) pos i = false := by
        intro i
        induction i with
        | zero => rfl
        | succ i ih => simp [anyHit, ih, hits]; omega
      rw [this] at h; cases h
  obtain ⟨m, hm⟩ : ∃ m, m = min 32 (8 * zs.length - pos) := ⟨_, rfl⟩
  have e0 : ∀ i, m ≤ i → i < 32 → hits turn (8 * zs.length) pos i = false := by
    intro i h1 h2
    simp only [hits, Bool.and_eq_false_iff, decide_eq_false_iff_not]
    right; omega
  have same : ∀ i, m ≤ i → i ≤ 32 → run c (turnedText turn zs pos i) = run c (turnedText turn zs pos m) ∧ anyHit turn (8 * zs.length) pos i = anyHit turn (8 * zs.length) pos m := by
    intro i
    induction i with
    | zero => intro h1 _; rw [show m = 0 by omega]; exact ⟨rfl, rfl⟩
    | succ i ih =>
      intro h1 h2
      by_cases e : m = i + 1
      · rw [e]; exact ⟨rfl, rfl⟩
      · have hi := ih (by omega) (by omega)
        have hf := e0 i (by omega) (by omega)
        rw [turned_run turn zs hz, hf, hi.1, anyHit, hi.2, hf]
        simp
  have s32 := same 32 (by omega) (Nat.le_refl _)
  rw [s32.1] at he'
  rw [s32.2] at h
  have hw := window turn (8 * zs.length - pos) m (by omega) (by omega) (fun i => run c (turnedText turn zs pos i) ^^^ run c zs) (by simp [turnedText]) (by
    intro i hi
    rw [turned_run turn zs hz]
    have : hits turn (8 * zs.length) pos i = turn.getLsbD i := by
      simp only [hits]
      rw [show decide (pos + i < 8 * zs.length) = true by simp; omega, Bool.and_true]
    rw [this, show 8 * zs.length - pos - i = 8 * zs.length - (pos + i) by omega]
    rw [BitVec.xor_assoc, BitVec.xor_assoc]
    congr 1
    exact BitVec.xor_comm _ _)
  rw [he', BitVec.xor_self] at hw
  have hlow := stn_inj0 _ _ hw.symm
  have : ∃ k, k < m ∧ turn.getLsbD k = true := by
    clear hw hlow same s32 he he' e0
    have : ∀ i, anyHit turn (8 * zs.length) pos i = true → ∃ k, k < i ∧ turn.getLsbD k = true := by
      intro i
      induction i with
      | zero => intro h; cases h
      | succ i ih =>
        intro h
        simp only [anyHit, Bool.or_eq_true] at h
        rcases h with h | h
        · obtain ⟨k, h1, h2⟩ := ih h; exact ⟨k, by omega, h2⟩
        · simp only [hits, Bool.and_eq_true] at h; exact ⟨i, by omega, h.1⟩
    exact this m h
  obtain ⟨k, h1, h2⟩ := this
  exact low_ne turn m k (by omega) h1 h2 hlow

end Tally
