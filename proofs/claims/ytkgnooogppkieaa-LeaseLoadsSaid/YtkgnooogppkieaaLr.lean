/- The document's with, without and Get, as plain functions, at a table's leases. Conditions: the ids rise. -/
import Derived.Test.YtkgnooogppkieaaLq
import Derived.Test.YtkgnooogppkieaaLn
namespace Go.Proofs.Ytkgnooogppkieaa
variable {L : List Lz}

theorem split_k (hs : Rises L) (id : Int) : ∃ A B, L = A ++ B ∧ A = L.take (kOf L id) ∧ B = L.drop (kOf L id) ∧ (∀ p ∈ A, p.1 < id) ∧
    ((isIn L id = false ∧ ∀ p ∈ B, id < p.1) ∨ ∃ q R, B = q :: R ∧ L[kOf L id]? = some q ∧ q.1 = id ∧ isIn L id = true ∧ R = L.drop (kOf L id + 1) ∧ ∀ p ∈ R, id < p.1) := by
  refine ⟨_, _, (List.take_append_drop _ _).symm, rfl, rfl, fun p hp => mem_take_lo hs id p hp, ?_⟩
  cases hi : isIn L id with
  | false =>
    refine .inl ⟨rfl, fun p hp => ?_⟩
    have h1 := mem_drop_hi hs id p hp
    have h2 : (p.1 == id) = false := by
      have h3 : isIn L id = false := hi
      unfold isIn at h3
      rw [List.any_eq_false] at h3
      simpa using h3 p (List.mem_of_mem_drop hp)
    have : p.1 ≠ id := by simpa using h2
    omega
  | true =>
    obtain ⟨q, hq, hid⟩ := isIn_get hs id hi
    have hlt := (List.getElem?_eq_some_iff.1 hq).1
    have hd : L.drop (kOf L id) = q :: L.drop (kOf L id + 1) := by
      rw [List.drop_eq_getElem_cons hlt]; congr 1; exact (List.getElem?_eq_some_iff.1 hq).2
    refine .inr ⟨q, _, hd, hq, hid, rfl, rfl, fun p hp => ?_⟩
    have hs' : (L.drop (kOf L id)).Pairwise (fun a b => a.1 < b.1) := hs.sublist (List.drop_sublist _ _)
    rw [hd] at hs'
    have := List.rel_of_pairwise_cons hs' hp
    omega

/-- one step of with. -/
def wStep (x : Lz) (s : List Lz × Bool) (p : Lz) : List Lz × Bool :=
  if s.2 = false ∧ x.1 ≤ p.1 then (if p.1 = x.1 then (s.1 ++ [x], true) else (s.1 ++ [x] ++ [p], true)) else (if p.1 = x.1 then s else (s.1 ++ [p], s.2))
def withS (L : List Lz) (x : Lz) (t : Nat) : List Lz × Bool := (L.take t).foldl (wStep x) ([], false)
def withL (L : List Lz) (x : Lz) : List Lz := if (withS L x L.length).2 then (withS L x L.length).1 else (withS L x L.length).1 ++ [x]
theorem withS_next {x : Lz} {t : Nat} {p : Lz} (h : L[t]? = some p) : withS L x (t + 1) = wStep x (withS L x t) p := by
  unfold withS; rw [List.take_add_one, h, List.foldl_append]; rfl
theorem wStep_len (x : Lz) (s : List Lz × Bool) (p : Lz) : (wStep x s p).1.length ≤ s.1.length + 2 := by
  unfold wStep; repeat (first | split | (simp; try omega))
theorem withS_len (L : List Lz) (x : Lz) (t : Nat) : (withS L x t).1.length ≤ 2 * t := by
  have H : ∀ (l : List Lz) (s : List Lz × Bool), (l.foldl (wStep x) s).1.length ≤ s.1.length + 2 * l.length := by
    intro l
    induction l with
    | nil => intro s; exact Nat.le_refl _
    | cons p l ih =>
      intro s
      have h1 := ih (wStep x s p)
      have h2 := wStep_len x s p
      simp only [List.foldl_cons, List.length_cons]
      omega
  have := H (L.take t) ([], false)
  have h2 : (L.take t).length ≤ t := by rw [List.length_take]; omega
  unfold withS
  simp only [List.length_nil] at this
  omega
theorem fold_lo (x : Lz) : ∀ (l o : List Lz), (∀ p ∈ l, p.1 < x.1) → l.foldl (wStep x) (o, false) = (o ++ l, false) := by
  intro l
  induction l with
  | nil => intro o _; simp
  | cons p l ih =>
    intro o h
    have hp := h p (by simp)
    have e : wStep x (o, false) p = (o ++ [p], false) := by unfold wStep; rw [if_neg (by simp; omega), if_neg (by omega)]
    rw [List.foldl_cons, e, ih _ (fun q hq => h q (by simp [hq])), List.append_assoc]; rfl
theorem fold_hi (x : Lz) : ∀ (l o : List Lz), (∀ p ∈ l, x.1 < p.1) → l.foldl (wStep x) (o, true) = (o ++ l, true) := by
  intro l
  induction l with
  | nil => intro o _; simp
  | cons p l ih =>
    intro o h
    have hp := h p (by simp)
    have e : wStep x (o, true) p = (o ++ [p], true) := by unfold wStep; rw [if_neg (by simp), if_neg (by omega)]
    rw [List.foldl_cons, e, ih _ (fun q hq => h q (by simp [hq])), List.append_assoc]; rfl
theorem withL_is (hs : Rises L) (x : Lz) : withL L x = L.take (kOf L x.1) ++ x :: L.drop (kOf L x.1 + if isIn L x.1 then 1 else 0) := by
  obtain ⟨A, B, hL, hA, hB, hlo, h⟩ := split_k hs x.1
  have hf : withS L x L.length = B.foldl (wStep x) (A, false) := by
    unfold withS
    rw [List.take_length]
    conv => lhs; rw [hL]
    rw [List.foldl_append, fold_lo x A [] hlo]
    rfl
  unfold withL
  rcases h with ⟨hi, hgt⟩ | ⟨q, R, hBR, hq, hid, hi, hR, hgt⟩
  · rw [hi, hf, ← hA]
    simp only [Bool.false_eq_true, if_false, Nat.add_zero]
    rw [← hB]
    cases B with
    | nil => rfl
    | cons q R =>
      have hq := hgt q (by simp)
      have e : wStep x (A, false) q = (A ++ [x] ++ [q], true) := by unfold wStep; rw [if_pos ⟨rfl, by omega⟩, if_neg (by omega)]
      rw [List.foldl_cons, e, fold_hi x R _ (fun p hp => hgt p (by simp [hp]))]
      simp
  · rw [hi, hf, ← hA, hBR, List.foldl_cons]
    have e : wStep x (A, false) q = (A ++ [x], true) := by unfold wStep; rw [if_pos ⟨rfl, by omega⟩, if_pos hid]
    rw [e, fold_hi x R _ hgt, hR]
    simp
theorem with_ins (hs : Rises L) (x : Lz) (h : isIn L x.1 = false) : withL L x = insL L x := by
  rw [withL_is hs, h]; rfl
theorem find_get (hs : Rises L) (id : Int) : findL L id = getL L id := by
  obtain ⟨A, B, hL, hA, hB, hlo, h⟩ := split_k hs id
  have hfa : A.find? (fun p => p.1 == id) = none := by
    rw [List.find?_eq_none]; intro p hp; have := hlo p hp; simp; omega
  unfold findL getL
  conv => lhs; rw [hL]
  rw [List.find?_append, hfa, Option.none_or]
  rcases h with ⟨hi, hgt⟩ | ⟨q, R, hBR, hq, hid, hi, hR, hgt⟩
  · rw [hi]
    simp only [Bool.false_eq_true, if_false]
    rw [List.find?_eq_none]; intro p hp; have := hgt p hp; simp; omega
  · rw [hi, hBR, List.find?_cons]
    simp [hid, hq]
theorem out_del (hs : Rises L) (id : Int) (h : isIn L id = true) : outL L id L.length = delL L id := by
  obtain ⟨A, B, hL, hA, hB, hlo, h'⟩ := split_k hs id
  rcases h' with ⟨hi, _⟩ | ⟨q, R, hBR, hq, hid, hi, hR, hgt⟩
  · rw [h] at hi; cases hi
  · unfold outL delL
    rw [List.take_length, ← hA, ← hR]
    conv => lhs; rw [hL, hBR]
    rw [List.filter_append, List.filter_cons]
    have h1 : A.filter (fun p => !(p.1 == id)) = A := by rw [List.filter_eq_self]; intro p hp; have := hlo p hp; simp; omega
    have h2 : R.filter (fun p => !(p.1 == id)) = R := by rw [List.filter_eq_self]; intro p hp; have := hgt p hp; simp; omega
    rw [h1, h2]
    simp [hid]
theorem with_ren (hs : Rises L) (id now : Int) (p : Lz) (h : isIn L id = true) (hp : getL L id = some p) : withL L (p.1, p.2.1, max p.2.2 now) = renL L id now := by
  obtain ⟨A, B, hL, hA, hB, hlo, h'⟩ := split_k hs id
  rcases h' with ⟨hi, _⟩ | ⟨q, R, hBR, hq, hid, hi, hR, hgt⟩
  · rw [h] at hi; cases hi
  · have hpq : p = q := by unfold getL at hp; rw [if_pos h, hq] at hp; exact (Option.some.inj hp).symm
    subst hpq
    rw [withL_is hs]
    unfold renL
    rw [hp, show ((p.1, p.2.1, max p.2.2 now) : Lz).1 = id from hid, h]
    simp only [if_true]
    rw [List.set_eq_take_append_cons_drop, if_pos (List.getElem?_eq_some_iff.1 hq).1, hid]
end Go.Proofs.Ytkgnooogppkieaa
