/- watcher: dropping a session, adding in another order, in plain words; two tables apart. Conditions: none. -/
import Derived.Test.YtmcjpochpmiipaaDoorVp
namespace Go.Proofs.YtmcjpochpmiipaaDoor
open Go Go.RowKit
set_option linter.unusedVariables false
set_option linter.unusedSimpArgs false
variable {w w' : World} {base n m : Nat} {vt vu v' : Value} {L U L' : List Wt}

/-- is a call done on the other table, too? -/
def keepB (s : Int) (o : Op9) : Bool := o.1 != 0 || o.2.2.1.1 != s
theorem mem_drop {s : Int} {x : Wt} {L : List Wt} : x ∈ dropL s L ↔ x ∈ L ∧ x.1 ≠ s := by
  unfold dropL dropB
  rw [List.mem_filter]
  simp
theorem good_drop (s : Int) (h : Good L) : Good (dropL s L) := h.filter _
theorem filter_comm (f g : Wt → Bool) (L : List Wt) : (L.filter f).filter g = (L.filter g).filter f := by
  rw [List.filter_filter, List.filter_filter]
  congr 1
  funext x
  exact Bool.and_comm _ _
theorem drops_step (s : Int) (o : Op9) (h : Good L) (hl : L.length < 500) : dropL s (stepL L o) = if keepB s o then stepL (dropL s L) o else dropL s L := by
  obtain ⟨k, m, p, e⟩ := o
  have hdl : (dropL s L).length < 500 := Nat.lt_of_le_of_lt (List.length_filter_le _ _) hl
  by_cases k0 : k = 0
  · subst k0
    have e1 : ∀ L, stepL L (0, m, p, e) = addL L p := fun L => rfl
    by_cases hs : p.1 = s
    · have hk : keepB s (0, m, p, e) = false := by simp [keepB, hs]
      rw [hk, e1]
      refine rises_ext (good_drop s (h.add p)).1 (good_drop s h).1 fun x => ?_
      rw [mem_drop, mem_add hl]
      simp only [Bool.false_eq_true, if_false]
      rw [mem_drop]
      constructor
      · rintro ⟨h1 | ⟨rfl, _⟩, h2⟩
        · exact ⟨h1, h2⟩
        · exact absurd hs h2
      · rintro ⟨h1, h2⟩
        exact ⟨.inl h1, h2⟩
    · have hk : keepB s (0, m, p, e) = true := by simp [keepB, hs]
      rw [hk, e1, if_pos rfl, e1]
      refine rises_ext (good_drop s (h.add p)).1 ((good_drop s h).add p).1 fun x => ?_
      rw [mem_drop, mem_add hl, mem_add hdl, mem_drop]
      constructor
      · rintro ⟨h1 | ⟨rfl, h3⟩, h2⟩
        · exact .inl ⟨h1, h2⟩
        · exact .inr ⟨rfl, h3⟩
      · rintro (⟨h1, h2⟩ | ⟨rfl, h3⟩)
        · exact ⟨.inl h1, h2⟩
        · exact ⟨.inr ⟨rfl, h3⟩, hs⟩
  have hk : keepB s (k, m, p, e) = true := by simp [keepB, k0]
  rw [hk, if_pos rfl]
  by_cases k1 : k = 1
  · subst k1
    have e1 : ∀ L, stepL L (1, m, p, e) = fireL e.2.1 e.2.2 L := fun L => rfl
    rw [e1, e1]
    exact filter_comm _ _ _
  by_cases k2 : k = 2
  · subst k2
    have e1 : ∀ L, stepL L (2, m, p, e) = dropL m L := fun L => rfl
    rw [e1, e1]
    exact filter_comm _ _ _
  have e1 : ∀ L, stepL L (k, m, p, e) = L := fun L => by simp [stepL, k0, k1, k2]
  rw [e1, e1]
theorem drop_twice (s : Int) (L : List Wt) : dropL s (dropL s L) = dropL s L := by
  unfold dropL
  rw [List.filter_filter]
  congr 1
  funext x
  simp

/-- a list behind watches that were added. -/
def addsL (xs : List Wt) (L : List Wt) : List Wt := xs.foldl addL L
theorem adds_next {xs : List Wt} {k : Nat} {x : Wt} (h : xs[k]? = some x) (L : List Wt) : addsL (xs.take (k + 1)) L = addL (addsL (xs.take k) L) x := by
  unfold addsL; rw [List.take_add_one, h, List.foldl_append]; rfl
theorem adds_len (xs : List Wt) (L : List Wt) : (addsL xs L).length ≤ L.length + xs.length := by
  unfold addsL
  induction xs generalizing L with
  | nil => exact Nat.le_refl _
  | cons o os ih => have := ih (addL L o); have := add_len L o; simp only [List.foldl_cons, List.length_cons]; omega
theorem good_adds (xs : List Wt) {L : List Wt} (h : Good L) : Good (addsL xs L) := by
  unfold addsL
  induction xs generalizing L with
  | nil => exact h
  | cons o os ih => exact ih (h.add o)
theorem mem_adds (xs : List Wt) (x : Wt) : ∀ {L : List Wt}, L.length + xs.length < 500 → (x ∈ addsL xs L ↔ x ∈ L ∨ (x ∈ xs ∧ okW x = true)) := by
  unfold addsL
  induction xs with
  | nil => intro L _; simp
  | cons o os ih =>
    intro L hl
    have h1 := add_len L o
    rw [List.length_cons] at hl
    rw [List.foldl_cons, ih (by omega), mem_add (by omega), List.mem_cons]
    constructor
    · rintro ((h | ⟨rfl, h⟩) | ⟨h, h2⟩)
      · exact .inl h
      · exact .inr ⟨.inl rfl, h⟩
      · exact .inr ⟨.inr h, h2⟩
    · rintro (h | ⟨rfl | h, h2⟩)
      · exact .inl (.inl h)
      · exact .inl (.inr ⟨rfl, h2⟩)
      · exact .inr ⟨h, h2⟩
theorem adds_rev (xs : List Wt) (hl : xs.length < 500) : addsL xs [] = addsL xs.reverse [] := by
  refine rises_ext (good_adds _ good_nil).1 (good_adds _ good_nil).1 fun x => ?_
  rw [mem_adds xs x (by simpa using hl), mem_adds xs.reverse x (by simpa using hl), List.mem_reverse]
theorem rev_at {xs : List Wt} {k : Nat} (hk : k < xs.length) : xs.reverse[k]? = xs[xs.length - 1 - k]? := by
  rw [List.getElem?_reverse hk]

/-- two tables, with blocks of their own. -/
structure Two (w : World) (base n m : Nat) (vt vu : Value) (L U : List Wt) : Prop where
  t : Tab w base n vt L
  u : Tab w base m vu U
  dis : ∀ k, Of n vt k → ¬ Of m vu k
theorem Two.swap (h : Two w base n m vt vu L U) : Two w base m n vu vt U L := ⟨h.u, h.t, fun k h1 h2 => h.dis k h2 h1⟩
theorem Two.below {B : Nat} (h : Two w base n m vt vu L U) (hb : Below B w w') (hB : w.heap.size ≤ B) : Two w' base n m vt vu L U := ⟨h.t.below hb hB, h.u.below hb hB, h.dis⟩
theorem Two.alloc (h : Two w base n m vt vu L U) (o : Obj) : Two (w.alloc o) base n m vt vu L U := ⟨h.t.alloc o, h.u.alloc o, h.dis⟩
/-- behind a call on the one. -/
theorem Two.left (h : Two w base n m vt vu L U) (ht : Tab w' base n v' L') (hg : Goes w w' n vt v') : Two w' base n m v' vu L' U := by
  refine ⟨ht, h.u.touch hg.touch h.dis, fun k h1 h2 => ?_⟩
  rcases hg.ofs k h1 with h3 | h3
  · exact h.dis k h3 h2
  · have := h.u.of_lt k h2; omega
/-- behind a call on the other. -/
theorem Two.right (h : Two w base n m vt vu L U) (ht : Tab w' base m v' L') (hg : Goes w w' m vu v') : Two w' base n m vt v' L L' := (h.swap.left ht hg).swap
end Go.Proofs.YtmcjpochpmiipaaDoor
