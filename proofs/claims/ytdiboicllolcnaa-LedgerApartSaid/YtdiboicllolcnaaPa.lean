/- platter: rows of sectors; a disk. Conditions: the disk lies in the call's own memory. -/
import Derived.Test.YtdiboicllolcnaaRow
import Derived.Test.YtdiboicllolcnaaCopy
import Derived.Test.YtdiboicllolcnaaOpen
import Derived.Test.YtdiboicllolcnaaOwn
import Derived.Test.YtdiboicllolcnaaTouch
import Derived.Test.YtdiboicllolcnaaQB
import Derived.Test.YtdiboicllolcnaaPhase
import Derived.Test.YtdiboicllolcnaaScope
import Derived.Deep.MidRow
import Derived.Deep.RegionHeld3
namespace Go.Proofs.Ytdiboicllolcnaa
open Go Go.RowKit
set_option linter.unusedVariables false
set_option linter.unusedSimpArgs false

/-! chunks of one size -/
section
variable {α : Type} (f : α → List Value) (K : Nat)
theorem fm_len (l : List α) (h : ∀ a ∈ l, (f a).length = K) : (l.flatMap f).length = l.length * K := by
  induction l with
  | nil => simp
  | cons a l ih =>
    rw [List.flatMap_cons, List.length_append, ih (fun b hb => h b (by simp [hb])), h a (by simp), List.length_cons, Nat.succ_mul]; omega
theorem fm_take (l : List α) (h : ∀ a ∈ l, (f a).length = K) (k : Nat) : (l.flatMap f).take (k * K) = (l.take k).flatMap f := by
  induction k generalizing l with
  | zero => simp
  | succ k ih =>
    cases l with
    | nil => simp
    | cons a l =>
      have ha := h a (by simp)
      have e : (k + 1) * K = (f a).length + k * K := by rw [ha, Nat.succ_mul]; omega
      rw [List.flatMap_cons, e, List.take_length_add_append, ih l (fun b hb => h b (by simp [hb])), List.take_succ_cons, List.flatMap_cons]
theorem fm_drop (l : List α) (h : ∀ a ∈ l, (f a).length = K) (k : Nat) : (l.flatMap f).drop (k * K) = (l.drop k).flatMap f := by
  induction k generalizing l with
  | zero => simp
  | succ k ih =>
    cases l with
    | nil => simp
    | cons a l =>
      have ha := h a (by simp)
      have e : (k + 1) * K = (f a).length + k * K := by rw [ha, Nat.succ_mul]; omega
      rw [List.flatMap_cons, e, List.drop_length_add_append, ih l (fun b hb => h b (by simp [hb])), List.drop_succ_cons]
theorem fm_get (l : List α) (h : ∀ a ∈ l, (f a).length = K) (k : Nat) (a : α) (hk : l[k]? = some a) (j : Nat) (hj : j < K) : (l.flatMap f)[k * K + j]? = (f a)[j]? := by
  have hlt := (List.getElem?_eq_some_iff.1 hk).1
  have hd : l.drop k = a :: l.drop (k + 1) := by
    rw [List.drop_eq_getElem_cons hlt]; congr 1; exact (List.getElem?_eq_some_iff.1 hk).2
  have ha := h a (List.mem_of_getElem? hk)
  rw [← List.getElem?_drop, fm_drop f K l h, hd, List.flatMap_cons, List.getElem?_append_left (by omega)]
theorem fm_set (l : List α) (h : ∀ a ∈ l, (f a).length = K) (k : Nat) (a : α) (hk : k < l.length) : (l.set k a).flatMap f = (l.flatMap f).take (k * K) ++ f a ++ (l.flatMap f).drop (k * K + K) := by
  rw [List.set_eq_take_append_cons_drop, if_pos hk, List.flatMap_append, List.flatMap_cons, fm_take f K l h, show k * K + K = (k + 1) * K by rw [Nat.succ_mul], fm_drop f K l h, List.append_assoc]
end

abbrev Sec := List UInt8
abbrev Wr := Nat × Sec
def bc (s : Sec) : List Value := s.map fun c => .int .u8 c.toNat
def wc (x : Wr) : List Value := .int .i64 x.1 :: bc x.2
def secCells (l : List Sec) : List Value := l.flatMap bc
def wCells (l : List Wr) : List Value := l.flatMap wc
theorem bc_len (s : Sec) : (bc s).length = s.length := by simp [bc]
theorem wc_len (x : Wr) : (wc x).length = x.2.length + 1 := by simp [wc, bc]
theorem bc_one (s : Sec) : ∀ u ∈ bc s, u.oneCell' = true := by
  intro u hu; obtain ⟨c, _, rfl⟩ := List.mem_map.1 hu; rfl
theorem wc_one (x : Wr) : ∀ u ∈ wc x, u.oneCell' = true := by
  intro u hu
  rcases List.mem_cons.1 hu with rfl | hu
  · rfl
  · exact bc_one _ u hu
theorem sec_one (l : List Sec) : ∀ u ∈ secCells l, u.oneCell' = true := by
  intro u hu; obtain ⟨s, _, hs⟩ := List.mem_flatMap.1 hu; exact bc_one s u hs
theorem wr_one (l : List Wr) : ∀ u ∈ wCells l, u.oneCell' = true := by
  intro u hu; obtain ⟨s, _, hs⟩ := List.mem_flatMap.1 hu; exact wc_one s u hs
def Full (l : List Sec) : Prop := ∀ s ∈ l, s.length = 64
def FullW (l : List Wr) : Prop := ∀ x ∈ l, x.2.length = 64
theorem Full.bc {l : List Sec} (h : Full l) : ∀ s ∈ l, (bc s).length = 64 := fun s hs => by rw [bc_len]; exact h s hs
theorem FullW.wc {l : List Wr} (h : FullW l) : ∀ x ∈ l, (wc x).length = 65 := fun x hx => by rw [wc_len, h x hx]
theorem Full.set {l : List Sec} (h : Full l) (k : Nat) (s : Sec) (hs : s.length = 64) : Full (l.set k s) := by
  intro t ht; rcases List.mem_or_eq_of_mem_set ht with h1 | rfl
  · exact h t h1
  · exact hs

/-! cells of a row -/
variable {w w' : World} {base : Nat}
theorem own_at {e size n c : Nat} {ad : Option Addr} {xs : List Value} (h : w.ownsRow base e size (.slice ad n c) n xs) (j : Nat) (hj : j < n * size) : ∃ g, ad = some ⟨g, 0, none⟩ ∧ base ≤ g ∧ g < w.heap.size ∧ ∀ i u, xs[i]? = some u → w.cell? ⟨g, i, none⟩ = some u := by
  rcases h.2 with ⟨_, h1⟩ | ⟨g, cap, cur, he, hb, hg, _⟩
  · subst h1; omega
  · obtain ⟨rfl, rfl⟩ : ad = some ⟨g, 0, none⟩ ∧ c = cap := by simpa using he
    have hC := h.cells (g := g) rfl
    refine ⟨g, rfl, hb, own_lt h g rfl, fun i u hi => ?_⟩
    have := hC i u hi
    rwa [Addr.add_lit, Nat.zero_add] at this
theorem own_free {e size n c g : Nat} {xs : List Value} (h : w.ownsRow base e size (.slice (some ⟨g, 0, none⟩) n c) n xs) (j : Nat) : w.frozen? ⟨g, j, none⟩ = false := by
  rcases h.2 with ⟨h0, _⟩ | ⟨g', cap, cur, he, hb, hg, _⟩
  · cases h0
  · obtain ⟨rfl, rfl⟩ : g = g' ∧ c = cap := by simpa using he
    exact frozen_of_row w g j cur e hg
theorem own_set {e size m c g : Nat} {xs : List Value} (h : w.ownsRow base e size (.slice (some ⟨g, 0, none⟩) m c) m xs) (j : Nat) (hj : j < m * size) (u : Value) : (w.setCell ⟨g, j, none⟩ u).ownsRow base e size (.slice (some ⟨g, 0, none⟩) m c) m (xs.set j u) := by
  obtain ⟨hl, h2⟩ := h
  refine ⟨by rw [List.length_set]; exact hl, ?_⟩
  rcases h2 with ⟨h0, _⟩ | ⟨g', cap, cur, he, hb, hg, hc, hm, hcs, ht⟩
  · cases h0
  · obtain ⟨rfl, rfl⟩ : g = g' ∧ c = cap := by simpa using he
    refine .inr ⟨g, c, cur.setIfInBounds j u, rfl, hb, heap_setCell_same w g j cur e u hg, hc, hm, by simpa using hcs, ?_⟩
    rw [Array.toList_setIfInBounds, List.take_set, ht]
theorem setCells_other (b : Nat) : ∀ (vs : List Value) (o : Nat) (w : World) (k : Nat), k ≠ b → (w.setCells b o vs).heap[k]? = w.heap[k]? := by
  intro vs
  induction vs with
  | nil => intro o w k _; rfl
  | cons v vs ih => intro o w k hk; rw [World.setCells, ih _ _ _ hk]; exact Below.heap_setCell w _ _ _ hk
theorem setCells_size (b : Nat) : ∀ (vs : List Value) (o : Nat) (w : World), (w.setCells b o vs).heap.size = w.heap.size := by
  intro vs
  induction vs with
  | nil => intro o w; rfl
  | cons v vs ih => intro o w; rw [World.setCells, ih]; simp [World.setCell]
theorem own_sets {e size m c g : Nat} : ∀ (vs : List Value) (o : Nat) (w : World) (xs : List Value), w.ownsRow base e size (.slice (some ⟨g, 0, none⟩) m c) m xs → o + vs.length ≤ m * size →
    (w.setCells g o vs).ownsRow base e size (.slice (some ⟨g, 0, none⟩) m c) m (xs.take o ++ vs ++ xs.drop (o + vs.length)) := by
  intro vs
  induction vs with
  | nil => intro o w xs h _; simpa [World.setCells] using h
  | cons v vs ih =>
    intro o w xs h ho
    rw [List.length_cons] at ho
    have hl := h.1
    have h1 := ih (o + 1) _ _ (own_set h o (by omega) v) (by omega)
    have e : (xs.set o v).take (o + 1) ++ vs ++ (xs.set o v).drop (o + 1 + vs.length) = xs.take o ++ (v :: vs) ++ xs.drop (o + (v :: vs).length) := by
      rw [List.take_set, List.drop_set_of_lt (by omega), List.length_cons, show o + 1 + vs.length = o + (vs.length + 1) by omega]
      have : (xs.take (o + 1)).set o v = xs.take o ++ [v] := by
        rw [List.take_add_one, List.getElem?_eq_getElem (by omega : o < xs.length), List.set_append_right _ _ (by rw [List.length_take]; omega)]
        rw [List.length_take, Nat.min_eq_left (by omega)]
        simp
      rw [this]; simp
    rw [e] at h1
    rw [World.setCells]
    exact h1
end Go.Proofs.Ytdiboicllolcnaa
