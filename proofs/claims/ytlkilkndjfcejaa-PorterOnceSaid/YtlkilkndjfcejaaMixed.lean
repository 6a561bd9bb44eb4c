/-
  A region that draws its order: first operations that are quiet in a class of worlds (calls may be among them), all of which the others wait for; then the others, in the one order that is left, from any world of the class.
  Conditions: none (plain lemmas over any program).
-/
import Derived.Test.YtlkilkndjfcejaaPhase
namespace Go.Proofs.Ytlkilkndjfcejaa
open Go Go.RowKit
section
variable {P : Program} {ops : Array Oper} {Q : Exit → Act → World → Prop} {md : Region.Mode} {C : World → Prop} {F : Array Bool → Act → Prop}

def wpAnyR (P : Program) (md : Region.Mode) (ops : Array Oper) (C : World → Prop) (F : Array Bool → Act → Prop) : Nat → Array Bool → Act → Prop
  | 0, l, a => F l a
  | n + 1, l, a => Region.ready md ops l ≠ [] ∧ ∀ i ∈ Region.ready md ops l, qOp P ops C i (wpAnyR P md ops C F n (l.setIfInBounds i true)) a
/-- how many of the first k are not listed yet. -/
def cnt (l : Array Bool) : Nat → Nat
  | 0 => 0
  | k + 1 => cnt l k + if l.getD k true then 0 else 1
theorem getD_self (l : Array Bool) (i : Nat) : (l.setIfInBounds i true).getD i true = true := by
  rw [Array.getD_eq_getD_getElem?, Array.getElem?_setIfInBounds]
  simp only [if_true]
  split <;> rfl
theorem cnt_ge {l : Array Bool} {i : Nat} : ∀ k, k ≤ i → cnt (l.setIfInBounds i true) k = cnt l k := by
  intro k
  induction k with
  | zero => intro _; rfl
  | succ k ih => intro h; simp only [cnt]; rw [ih (by omega), getD_set_ne true (by omega)]
theorem cnt_set {l : Array Bool} {i : Nat} (hl : l.getD i true = false) : ∀ k, i < k → cnt (l.setIfInBounds i true) k + 1 = cnt l k := by
  intro k
  induction k with
  | zero => intro h; omega
  | succ k ih =>
    intro h
    simp only [cnt]
    by_cases hik : i = k
    · subst hik
      rw [cnt_ge i (Nat.le_refl _), getD_self, hl]; simp
    · have := ih (by omega)
      rw [getD_set_ne true hik]; omega
theorem cnt_zero {l : Array Bool} : ∀ k, cnt l k = 0 → ∀ j, j < k → l.getD j true = true := by
  intro k
  induction k with
  | zero => intro _ j h; omega
  | succ k ih =>
    intro h j hj
    simp only [cnt] at h
    rcases Nat.lt_or_ge j k with h1 | h1
    · exact ih (by omega) j h1
    · obtain rfl : j = k := by omega
      cases hh : l.getD j true
      · rw [hh] at h; simp at h
      · rfl
/-- the others wait for all of the first. -/
def WaitsB (md : Region.Mode) (ops : Array Oper) (k : Nat) : Bool := (List.range ops.size).all fun t => decide (t < k) || (List.range k).all fun i => leadsB md ops i ops.size t
theorem waits {k : Nat} (h : WaitsB md ops k = true) {t i : Nat} (ht : t < ops.size) (hk : k ≤ t) (hi : i < k) : leadsB md ops i ops.size t = true := by
  unfold WaitsB at h
  have h1 := List.all_eq_true.1 h t (List.mem_range.2 ht)
  simp only [Bool.or_eq_true, decide_eq_true_eq] at h1
  exact List.all_eq_true.1 (h1.resolve_left (by omega)) i (List.mem_range.2 hi)
theorem ready_first {k : Nat} {l : Array Bool} (hw : WaitsB md ops k = true) (hc : Shutd md ops l) {i : Nat} (hi : i < k) (hl : l.getD i true = false) : ∀ j ∈ Region.ready md ops l, j < k := by
  intro j hj
  rcases Nat.lt_or_ge j k with h | h
  · exact h
  · obtain ⟨_, oj, hoj, _⟩ := mem_ready.1 hj
    have hjs : j < ops.size := (Array.getElem?_eq_some_iff.1 hoj).1
    exact absurd hj (leads_not_ready hc (waits hw hjs h hi) hl)
theorem wpAnyR_first {k : Nat} (hw : WaitsB md ops k = true) {i : Nat} {oi : Oper} {v : Value} (hi : ops[i]? = some oi) (hik : i < k) (hsel : ∀ (j : Nat) (o : Oper) cs b, ops[j]? = some o → o.op ≠ .select cs b) :
    ∀ (n : Nat) (l : Array Bool) (a : Act), Shutd md ops l → cnt l k = n + 1 →
      (∀ j oj, ops[j]? = some oj → j ≠ i → l.getD j true = false → (∀ e ∈ oj.after, Region.binds md e = true → e.on ≠ i) → oi.apart ops oj = true) →
      i ∈ Region.ready md ops l → YieldsIn P ops C oi v a →
      wpAnyR P md ops C F n (l.setIfInBounds i true) (a.put oi.dst v) → wpAnyR P md ops C F (n + 1) l a := by
  intro n
  induction n with
  | zero =>
    intro l a hc hn hfree hr hy H
    refine ⟨fun h => (by rw [h] at hr; cases hr), fun j hj => ?_⟩
    have hil := (mem_ready.1 hr).1
    have hjk := ready_first hw hc hik hil j hj
    have hjl := (mem_ready.1 hj).1
    by_cases hji : j = i
    · subst hji; exact hy.qOp hi H
    · exfalso
      have h0 := cnt_set hil k hik
      have h1 := cnt_zero (l := l.setIfInBounds i true) k (by omega) j hjk
      rw [getD_set_ne true (Ne.symm hji)] at h1
      rw [h1] at hjl; cases hjl
  | succ n ih =>
    intro l a hc hn hfree hr hy H
    refine ⟨fun h => (by rw [h] at hr; cases hr), fun j hj => ?_⟩
    have hil := (mem_ready.1 hr).1
    by_cases hji : j = i
    · subst hji; exact hy.qOp hi H
    · have h1 := H.2 j (ready_mono hj hji)
      obtain ⟨hjun, oj, hoj, hall⟩ := mem_ready.1 hj
      have hnot : ∀ e ∈ oj.after, Region.binds md e = true → e.on ≠ i := fun e he hb heq => by
        have h2 := hall e he hb
        rw [heq, getD_both hil] at h2
        cases h2
      have hjk := ready_first hw hc hik hil j hj
      have h2 := qOp_put hoj (hfree j oj hoj hji hjun hnot) (fun cs b => hsel i oi cs b hi) (fun cs b => hsel j oj cs b hoj) hy h1
      refine qOp_mono (fun a' h3 => ih (l.setIfInBounds j true) a' (hc.set hj) ?_ ?_ (ready_mono hr (Ne.symm hji)) h3.1 ?_) h2
      · have := cnt_set hjun k hjk; omega
      · intro m om hm hmi hum hno
        refine hfree m om hm hmi ?_ hno
        by_cases hjm : j = m
        · subst hjm; exact hjun
        · rw [getD_set_ne true hjm] at hum; exact hum
      · rw [Array.setIfInBounds_comm _ _ hji]
        exact h3.2
/-- the first ones, in the text's order; behind them 'fin' holds of what is listed. -/
def lexP (md : Region.Mode) (ops : Array Oper) (fin : Array Bool → Bool) : Nat → Nat → Array Bool → Bool
  | 0, _, l => fin l
  | n + 1, p, l => (Region.ready md ops l).contains p && Region.free md ops l p && decide (l.getD p true = false) && lexP md ops fin n (p + 1) (l.setIfInBounds p true)
theorem wpAnyR_lex {k : Nat} (hw : WaitsB md ops k = true) (hs : Region.noSelect ops = true) (fin : Array Bool → Bool) (K : Act → Prop) (hF : ∀ l a, fin l = true → K a → F l a) :
    ∀ (os : List Oper) (p : Nat) (l : Array Bool) (a : Act), Shutd md ops l → cnt l k = os.length → p + os.length = k → (∀ j o, os[j]? = some o → ops[p + j]? = some o) →
    lexP md ops fin os.length p l = true → wpQuiet P ops C K os a → wpAnyR P md ops C F os.length l a := by
  intro os
  induction os with
  | nil => intro p l a _ _ _ _ hB h; exact hF l a (by simpa [lexP] using hB) h
  | cons o os ih =>
    intro p l a hc hn hp hl hB h
    have h0 : ops[p]? = some o := by simpa using hl 0 o rfl
    simp only [List.length_cons, lexP, Bool.and_eq_true, decide_eq_true_eq] at hB
    obtain ⟨⟨⟨hr, hf⟩, hun⟩, hB'⟩ := hB
    have hri : p ∈ Region.ready md ops l := by simpa using hr
    rw [List.length_cons] at hn hp
    have hst : qOp P ops C p (wpQuiet P ops C K os) a := by unfold qOp; simp only [h0]; exact h
    obtain ⟨v, hy, hK⟩ := yieldsIn_of_qOp h0 hst
    refine wpAnyR_first hw h0 (by omega) (Region.noSelect_spec hs) os.length l a hc hn (Region.free_spec h0 hf) hri hy (ih (p + 1) _ _ (hc.set hri) ?_ (by omega) (fun j o' hj => ?_) hB' hK)
    · have := cnt_set hun k (by omega); omega
    · have := hl (j + 1) o' (by simpa using hj); rwa [show p + (j + 1) = p + 1 + j by omega] at this
theorem wpAny_of_R {m : Nat} (hF : ∀ l a w, C w → F l a → wpAny P md ops Q m l a w) : ∀ (n : Nat) (l : Array Bool) (a : Act) (w : World), C w → wpAnyR P md ops C F n l a → wpAny P md ops Q (n + m) l a w
  | 0, l, a, w, hw, h => by rw [Nat.zero_add]; exact hF l a w hw h
  | n + 1, l, a, w, hw, h => by
    rw [Nat.add_right_comm]
    exact ⟨fun h0 => absurd h0 h.1, fun i hi => wpOp_of_qOp hw (fun a' w' hw' => wpAny_of_R hF n _ a' w' hw') (h.2 i hi)⟩
/-- THE LAW: the first k operations quiet in the class; then the others, the last of them 'late', in the one order that is left. -/
theorem wp_region_mixed {id : Nat} {a : Act} {w : World} (C : World → Prop) (k late : Nat) (opl : List Oper) (hm : P.follows .mixedOrders = true) (ho : ops = opl.toArray) (hk : (decide (k ≤ opl.length)) = true)
    (hB : (Region.noSelect ops && (WaitsB .any ops k && (cnt (Array.replicate ops.size false) k == k && lexP .any ops (fun l => tailsB .any ops late ((List.range (opl.length - k)).map (· + k)) l) k 0 (Array.replicate ops.size false)))) = true)
    (hl tl : List Oper) (hh : hl = opl.take k) (ht : tl = opl.drop k) (hC : C w.drew)
    (h : wpQuiet P ops C (fun a' => ∀ w', C w' → wpTail P ops (fun _ => True) Q tl a' w') hl a) : (Code.region id ops true).wp P Q a w := by
  subst hh ht ho
  have hk : k ≤ opl.length := by simpa using hk
  simp only [Bool.and_eq_true, beq_iff_eq] at hB
  obtain ⟨hs, hw, hcnt, hlex⟩ := hB
  have hlen : (opl.take k).length = k := by rw [List.length_take]; omega
  have h1 := wpAnyR_lex (P := P) (C := C) (F := fun l a => tailsB .any opl.toArray late ((List.range (opl.length - k)).map (· + k)) l = true ∧ ∀ w', C w' → wpTail P opl.toArray (fun _ => True) Q (opl.drop k) a w') hw hs
    (fun l => tailsB .any opl.toArray late ((List.range (opl.length - k)).map (· + k)) l) _ (fun l a h1 h2 => ⟨h1, h2⟩) (opl.take k) 0 _ a (Shutd.start _) (by rw [hlen]; exact hcnt) (by rw [hlen, Nat.zero_add])
    (fun j o hj => by
      rw [Nat.zero_add]
      rw [List.getElem?_take] at hj
      split at hj
      · simpa using hj
      · cases hj) (by rw [hlen]; exact hlex) h
  refine wp_region_any hm ?_
  have h2 := wpAny_of_R (Q := Q) (m := opl.length - k) (fun l a w' hw' hF => by
    have h3 := tails_any (md := .any) (S := fun _ => True) (late := late) (Q := Q) ((List.range (opl.length - k)).map (· + k)) (opl.drop k) l a w' (by
      apply List.ext_getElem?
      intro j
      simp only [List.map_map, List.getElem?_map, List.getElem?_drop, Function.comp]
      by_cases hj : j < opl.length - k
      · rw [List.getElem?_range hj]; simp [Nat.add_comm]
        rw [List.getElem?_eq_getElem (by omega)]
        rfl
      · rw [List.getElem?_eq_none (by simpa using Nat.not_lt.1 hj), List.getElem?_eq_none (by omega)]; rfl) hF.1 (hF.2 w' hw')
    have h4 := wpAny_of_P _ _ _ _ h3
    simpa using h4) _ _ a w.drew hC h1
  rw [hlen, show k + (opl.length - k) = opl.toArray.size by simp; omega] at h2
  exact h2
end
end Go.Proofs.Ytlkilkndjfcejaa
