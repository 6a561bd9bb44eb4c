/- lease: what stays true of a table's leases. Conditions: none. -/
import Derived.Test.YtkgnooogppkieaaLj
namespace Go.Proofs.Ytkgnooogppkieaa
open Go.RowKit
set_option linter.unusedVariables false
set_option linter.unusedSimpArgs false
variable {L : List Lz}

/-- a table's leases: by rising ids, right, as many as may be. -/
structure Good (L : List Lz) : Prop where
  rises : Rises L
  right : ∀ p ∈ L, rightB p = true
  many : L.length ≤ 100
theorem good_nil : Good [] := ⟨by simp, by simp, by simp⟩
theorem kOf_lo (hs : Rises L) (id : Int) (j : Nat) (p : Lz) (hp : L[j]? = some p) : j < kOf L id ↔ p.1 < id := by
  induction L generalizing j with
  | nil => cases hp
  | cons q L ih =>
    have hs' := List.pairwise_cons.1 hs
    have hk : kOf (q :: L) id = kOf L id + (if q.1 < id then 1 else 0) := by
      unfold kOf; rw [List.countP_cons]; simp
    cases j with
    | zero =>
      obtain rfl : q = p := by simpa using hp
      rw [hk]
      split
      · rename_i h; exact ⟨fun _ => h, fun _ => by omega⟩
      · rename_i h
        have h0 : kOf L id = 0 := by
          unfold kOf; rw [List.countP_eq_zero]
          intro r hr; have := hs'.1 r hr; simp; omega
        rw [h0]; exact ⟨fun h1 => by omega, fun h1 => absurd h1 h⟩
    | succ j =>
      have := ih hs'.2 j (by simpa using hp)
      have hm := hs'.1 p (List.mem_of_getElem? (by simpa using hp : L[j]? = some p))
      rw [hk]
      split
      · rw [← this]; omega
      · rename_i h; rw [← this]
        have h0 : kOf L id = 0 := by
          unfold kOf; rw [List.countP_eq_zero]
          intro r hr; have := hs'.1 r hr; simp; omega
        omega
theorem mem_take_lo (hs : Rises L) (id : Int) (p : Lz) (hp : p ∈ L.take (kOf L id)) : p.1 < id := by
  obtain ⟨j, hj, he⟩ := List.getElem_of_mem hp
  rw [List.length_take] at hj
  rw [List.getElem_take] at he
  exact (kOf_lo hs id j p (by rw [List.getElem?_eq_getElem (by omega), he])).1 (by omega)
theorem mem_drop_hi (hs : Rises L) (id : Int) (p : Lz) (hp : p ∈ L.drop (kOf L id)) : id ≤ p.1 := by
  obtain ⟨j, hj, he⟩ := List.getElem_of_mem hp
  rw [List.length_drop] at hj
  rw [List.getElem_drop] at he
  have := (kOf_lo hs id (kOf L id + j) p (by rw [List.getElem?_eq_getElem (by omega), he]))
  by_cases h : p.1 < id
  · have := this.2 h; omega
  · omega
theorem good_ins (h : Good L) (x : Lz) (ho : openOk L x = true) : Good (insL L x) := by
  simp only [openOk, Bool.and_eq_true, Bool.not_eq_true', decide_eq_true_eq] at ho
  obtain ⟨⟨hr, hn⟩, hl⟩ := ho
  have hne : ∀ p ∈ L, p.1 ≠ x.1 := fun p hp e => by
    unfold isIn at hn
    rw [List.any_eq_false] at hn
    exact hn p hp (by simpa using e)
  refine ⟨?_, ?_, ?_⟩
  · unfold insL Rises
    rw [List.pairwise_append, List.pairwise_cons]
    refine ⟨h.rises.sublist (List.take_sublist _ _), ⟨fun p hp => ?_, h.rises.sublist (List.drop_sublist _ _)⟩, fun p hp q hq => ?_⟩
    · have := mem_drop_hi h.rises x.1 p hp
      have := hne p (List.mem_of_mem_drop hp)
      omega
    · have h1 := mem_take_lo h.rises x.1 p hp
      rcases List.mem_cons.1 hq with rfl | hq
      · exact h1
      · have := mem_drop_hi h.rises x.1 q hq; omega
  · intro p hp
    rcases List.mem_append.1 hp with hp | hp
    · exact h.right p (List.mem_of_mem_take hp)
    · rcases List.mem_cons.1 hp with rfl | hp
      · exact hr
      · exact h.right p (List.mem_of_mem_drop hp)
  · have := kOf_le L x.1
    rw [insL, List.length_append, List.length_take, List.length_cons, List.length_drop]; omega
theorem good_del (h : Good L) (id : Int) : Good (delL L id) := by
  have hsub : (delL L id).Sublist L := by
    have h1 : (L.take (kOf L id) ++ L.drop (kOf L id)) = L := List.take_append_drop _ _
    have h2 : (L.drop (kOf L id + 1)).Sublist (L.drop (kOf L id)) := List.drop_sublist_drop_left _ (by omega)
    have h3 := List.Sublist.append (List.Sublist.refl (L.take (kOf L id))) h2
    rwa [h1] at h3
  exact ⟨h.rises.sublist hsub, fun p hp => h.right p (hsub.subset hp), Nat.le_trans hsub.length_le h.many⟩
theorem good_ren (h : Good L) (id now : Int) (hc : clockB now = true) : Good (renL L id now) := by
  unfold renL
  cases hg : getL L id with
  | none => exact h
  | some p =>
    have hk : L[kOf L id]? = some p := by
      unfold getL at hg
      split at hg
      · exact hg
      · cases hg
    obtain ⟨hlt, hp⟩ := List.getElem?_eq_some_iff.1 hk
    have hr := h.right p (List.mem_of_getElem? hk)
    simp only [clockB, Bool.and_eq_true, decide_eq_true_eq] at hc
    refine ⟨?_, ?_, by rw [List.length_set]; exact h.many⟩
    · unfold Rises
      rw [List.pairwise_iff_getElem]
      intro i j hi hj hij
      rw [List.length_set] at hi hj
      have hb := List.pairwise_iff_getElem.1 h.rises i j hi hj hij
      rw [List.getElem_set, List.getElem_set]
      have e1 : ∀ i (hi : i < L.length), kOf L id = i → p = L[i] := by rintro i hi rfl; exact hp.symm
      split
      · rename_i h1
        have e := congrArg Prod.fst (e1 i hi h1)
        split
        · omega
        · show p.1 < L[j].1
          omega
      · split
        · rename_i h2
          have e := congrArg Prod.fst (e1 j hj h2)
          show L[i].1 < p.1
          omega
        · exact hb
    · intro q hq
      rcases List.mem_or_eq_of_mem_set hq with hq | rfl
      · exact h.right q hq
      · simp only [rightB, decide_eq_true_eq] at hr ⊢; omega
end Go.Proofs.Ytkgnooogppkieaa
