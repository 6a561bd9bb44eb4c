/- chart: the code's winner is the document's, plain; who joins later. Conditions: none (no program). -/
import Derived.Test.YtbkjhogfpcmcbaaDoorKr
namespace Go.Proofs.YtbkjhogfpcmcbaaDoor
open Go Go.RowKit Zn
set_option linter.unusedVariables false
set_option linter.unusedSimpArgs false
variable {w w' : World}
theorem blt (x y : List UInt8) : Op.bytesLess x y = decide (x < y) := by
  induction x generalizing y with
  | nil => cases y <;> simp [Op.bytesLess]
  | cons a x ih =>
    cases y with
    | nil => simp [Op.bytesLess]
    | cons b y =>
      rw [Op.bytesLess, ih]
      simp only [List.cons_lt_cons_iff]
      by_cases h1 : a < b <;> by_cases h2 : a = b <;> by_cases h3 : x < y <;> simp [h1, h2, h3]
def LtN (s t : Nm) : Prop := candN s < candN t ∨ candN s = candN t ∧ s < t
theorem beats_iff (s t : Nm) : beatsB s t = true ↔ candB s = true ∧ LtN s t := by
  unfold beatsB LtN
  rw [blt]
  simp
theorem LtN.irrefl (s : Nm) : ¬ LtN s s := by
  rintro (h | ⟨_, h⟩)
  · omega
  · exact List.lt_irrefl _ h
theorem LtN.trans {a b c : Nm} (h : LtN a b) (k : LtN b c) : LtN a c := by
  rcases h with h | ⟨e, h⟩
  · rcases k with k | ⟨e', _⟩
    · exact .inl (by omega)
    · exact .inl (by omega)
  · rcases k with k | ⟨e', k⟩
    · exact .inl (by omega)
    · exact .inr ⟨by omega, List.lt_trans h k⟩
theorem LtN.total (a b : Nm) : LtN a b ∨ a = b ∨ LtN b a := by
  rcases Int.lt_trichotomy (candN a) (candN b) with h | h | h
  · exact .inl (.inl h)
  · by_cases h1 : a < b
    · exact .inl (.inr ⟨h, h1⟩)
    · by_cases h2 : b < a
      · exact .inr (.inr (.inr ⟨h.symm, h2⟩))
      · exact .inr (.inl (List.le_antisymm (List.not_lt.1 h2) (List.not_lt.1 h1)))
  · exact .inr (.inr (.inl h))
theorem cand_nil : candB [] = false := by unfold candB; rw [cut_short (by simp)]; rfl
structure WinInv (L : List Nm) (W : Wn) : Prop where
  no : W.b = [] → ∀ s ∈ L, candB s = false
  yes : W.b ≠ [] → candB W.b = true ∧ W.b ∈ L ∧ W.k = candK W.b ∧ W.n = candN W.b ∧ ∀ s ∈ L, beatsB s W.b = false
theorem winC_beats {L : List Nm} {W : Wn} (h : WinInv L W) (hb : W.b ≠ []) (s : Nm) : winC W s = beatsB s W.b := by
  unfold winC beatsB
  rw [(h.yes hb).2.2.2.1, decide_eq_false hb, Bool.false_or]
theorem winC_first {W : Wn} (hb : W.b = []) (s : Nm) : winC W s = candB s := by
  unfold winC
  rw [decide_eq_true hb, Bool.true_or, Bool.true_or, Bool.and_true]
theorem winInv (L : List Nm) : WinInv L (winL L) := by
  have H : ∀ r : List Nm, WinInv r.reverse (winL r.reverse) := by
    intro r
    induction r with
    | nil => exact ⟨fun _ s hs => by simp at hs, fun h => absurd rfl h⟩
    | cons s r ih =>
      rw [List.reverse_cons, winL_snoc]
      generalize winL r.reverse = W at ih ⊢
      generalize r.reverse = L at ih ⊢
      unfold winStep
      cases hc : winC W s with
      | true =>
        rw [if_pos rfl]
        have hs : candB s = true := by unfold winC at hc; simp only [Bool.and_eq_true] at hc; exact hc.1
        have hne : s ≠ [] := fun e => by rw [e, cand_nil] at hs; cases hs
        refine ⟨fun e => absurd e hne, fun _ => ⟨hs, by simp, rfl, rfl, fun t ht => ?_⟩⟩
        cases hbt : beatsB t s with
        | false => rfl
        | true =>
          exfalso
          obtain ⟨h1, h2⟩ := (beats_iff t s).1 hbt
          rcases List.mem_append.1 ht with ht | ht
          · by_cases hb : W.b = []
            · rw [ih.no hb t ht] at h1; cases h1
            · rw [winC_beats ih hb] at hc
              have h3 := (ih.yes hb).2.2.2.2 t ht
              have h4 := (beats_iff t W.b).2 ⟨h1, h2.trans ((beats_iff s W.b).1 hc).2⟩
              rw [h3] at h4; cases h4
          · simp at ht
            subst ht
            exact LtN.irrefl _ h2
      | false =>
        rw [if_neg (by decide)]
        refine ⟨fun hb t ht => ?_, fun hb => ?_⟩
        · rcases List.mem_append.1 ht with ht | ht
          · exact ih.no hb t ht
          · simp at ht
            subst ht
            rwa [winC_first hb] at hc
        · obtain ⟨h1, h2, h3, h4, h5⟩ := ih.yes hb
          refine ⟨h1, List.mem_append_left _ h2, h3, h4, fun t ht => ?_⟩
          rcases List.mem_append.1 ht with ht | ht
          · exact h5 t ht
          · simp at ht
            subst ht
            rwa [winC_beats ih hb] at hc
  have := H L.reverse
  simpa using this
theorem win_none {L : List Nm} (h : (winL L).b = []) : rwin L = none := by
  unfold rwin
  rw [List.find?_eq_none]
  intro x hx
  unfold firstB
  rw [(winInv L).no h x hx, Bool.false_and]
  decide
theorem win_some {L : List Nm} (h : (winL L).b ≠ []) : rwin L = some (winL L).b := by
  obtain ⟨h1, h2, _, _, h5⟩ := (winInv L).yes h
  generalize (winL L).b = b at h1 h2 h5
  have hf : firstB L b = true := by
    unfold firstB noneB
    rw [h1, Bool.true_and, List.all_eq_true]
    intro s hs
    rw [h5 s hs]; rfl
  unfold rwin
  cases hr : L.find? (firstB L) with
  | none =>
    rw [List.find?_eq_none] at hr
    exact absurd hf (hr b h2)
  | some t =>
    have ht := List.find?_some hr
    have htm := List.mem_of_find?_eq_some hr
    unfold firstB noneB at ht
    simp only [Bool.and_eq_true, List.all_eq_true] at ht
    obtain ⟨t1, t2⟩ := ht
    congr 1
    rcases LtN.total t b with h | h | h
    · have := (beats_iff t b).2 ⟨t1, h⟩
      rw [h5 t htm] at this; cases this
    · exact h
    · have := (beats_iff b t).2 ⟨h1, h⟩
      have k := t2 b h2
      rw [this] at k; cases k
theorem win_k {L : List Nm} (h : (winL L).b ≠ []) : (winL L).k = rcK (winL L).b := by
  obtain ⟨h1, _, h3, _, _⟩ := (winInv L).yes h
  unfold rcK
  rw [h1, if_pos rfl, h3]
theorem win_k0 {L : List Nm} (h : (winL L).b = []) : (winL L).k = 0 := by
  have H : ∀ r : List Nm, (winL r.reverse).b = [] → (winL r.reverse).k = 0 := by
    intro r
    induction r with
    | nil => intro _; rfl
    | cons s r ih =>
      rw [List.reverse_cons, winL_snoc]
      unfold winStep
      cases hc : winC (winL r.reverse) s with
      | true =>
        rw [if_pos rfl]
        have hs : candB s = true := by unfold winC at hc; simp only [Bool.and_eq_true] at hc; exact hc.1
        intro e
        have e : s = [] := e
        rw [e, cand_nil] at hs; cases hs
      | false => rw [if_neg (by decide)]; exact ih
  have := H L.reverse
  simp only [List.reverse_reverse] at this
  exact this h
theorem win_later {L : List Nm} {s : Nm} (h : (winL L).b ≠ []) (hm : ¬ cutN (47 :: s) ≤ cutN (47 :: (winL L).b)) : (winL (L ++ [s])).b = (winL L).b := by
  rw [winL_snoc]
  unfold winStep
  rw [winC_beats (winInv L) h]
  obtain ⟨h1, _⟩ := (winInv L).yes h
  cases hb : beatsB s (winL L).b with
  | false => rfl
  | true =>
    exfalso
    obtain ⟨h2, h3⟩ := (beats_iff _ _).1 hb
    have e1 : candN s = cutN (47 :: s) := by unfold candN; rw [h2]; rfl
    have e2 : candN (winL L).b = cutN (47 :: (winL L).b) := by unfold candN; rw [h1]; rfl
    rcases h3 with h3 | ⟨h3, _⟩ <;> omega
theorem win_cut {L : List Nm} (h : (winL L).b ≠ []) : cutB (47 :: (winL L).b) = true := by
  obtain ⟨h1, _⟩ := (winInv L).yes h
  unfold candB at h1
  simp only [Bool.and_eq_true] at h1
  exact h1.1
end Go.Proofs.YtbkjhogfpcmcbaaDoor
