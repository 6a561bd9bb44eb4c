/-
  What a call may have touched: a set of blocks; and boxes: a block of known cells. Conditions: none (plain lemmas over any program).
-/
import Derived.WalkKit
import Derived.Below
import Derived.OwnWalk
import Derived.Laws.OwnMore
import Derived.Laws.Tables
import Derived.Laws.Rows
import Derived.Deep.Draws
namespace Go.Proofs.Ytadgnemfjmiafaa
open Go Go.RowKit

/-- w' is w but for new blocks and for what lies in the blocks of S. -/
structure Touch (S : Nat → Prop) (w w' : World) : Prop where
  os : w'.os = w.os
  tape : w'.tape = w.tape
  output : w'.output = w.output
  size : w.heap.size ≤ w'.heap.size
  block : ∀ k, k < w.heap.size → ¬ S k → w'.heap[k]? = w.heap[k]?

variable {S : Nat → Prop} {w w' w0 : World}
theorem Touch.refl (S : Nat → Prop) (w : World) : Touch S w w := ⟨rfl, rfl, rfl, Nat.le_refl _, fun _ _ _ => rfl⟩
theorem Touch.trans {a b c : World} (h : Touch S a b) (k : Touch S b c) : Touch S a c :=
  ⟨k.os.trans h.os, k.tape.trans h.tape, k.output.trans h.output, Nat.le_trans h.size k.size, fun i hi hS => (k.block i (Nat.lt_of_lt_of_le hi h.size) hS).trans (h.block i hi hS)⟩
theorem Touch.mono {S' : Nat → Prop} (h : Touch S w w') (hS : ∀ k, k < w.heap.size → S k → S' k) : Touch S' w w' :=
  ⟨h.os, h.tape, h.output, h.size, fun k hk hn => h.block k hk (fun hs => hn (hS k hk hs))⟩
theorem Touch.drew (h : Touch S w w') : Touch S w w'.drew := ⟨h.os, h.tape, h.output, h.size, h.block⟩
theorem Touch.alloc (h : Touch S w w') (o : Obj) : Touch S w (w'.alloc o) :=
  h.trans ⟨rfl, rfl, rfl, by simp, fun k hk _ => Below.heap_alloc _ _ _ hk⟩
theorem Touch.setCell (h : Touch S w w') {p : Addr} (hp : S p.block) (u : Value) : Touch S w (w'.setCell p u) :=
  h.trans ⟨rfl, rfl, rfl, by simp [World.setCell], fun k _ hk => Below.heap_setCell _ _ _ _ (by rintro rfl; exact hk hp)⟩
theorem Touch.setCell_new (h : Touch S w w') {p : Addr} (hp : w.heap.size ≤ p.block) (u : Value) : Touch S w (w'.setCell p u) :=
  ⟨h.os, h.tape, h.output, by simpa [World.setCell] using h.size, fun k hk hS => (Below.heap_setCell _ _ _ _ (by omega)).trans (h.block k hk hS)⟩
theorem Touch.of_below (h : Below w.heap.size w w') : Touch S w w' := ⟨h.os, h.tape, h.output, h.size, fun k hk _ => h.block k hk⟩
theorem Touch.below {B : Nat} (h : Touch S w w') (hB : ∀ k, k < B → k < w.heap.size ∧ ¬ S k) : Below B w w' :=
  ⟨h.os, h.tape, h.output, h.size, fun k hk => h.block k (hB k hk).1 (hB k hk).2⟩
theorem Touch.grown {row : Option Nat} (h : Touch S w w') (hg : w'.grownBy w0 row) (hr : ∀ k, row = some k → S k ∨ w.heap.size ≤ k) : Touch S w w0 :=
  ⟨hg.os.trans h.os, hg.tape.trans h.tape, hg.output.trans h.output, Nat.le_trans h.size hg.size, fun k hk hS => (hg.block k (Nat.lt_of_lt_of_le hk h.size) (fun e => by
    rcases hr k e.symm with h1 | h1
    · exact hS h1
    · omega)).trans (h.block k hk hS)⟩
/-- Behind 'Below B', and a call that touches S alone. -/
theorem Below.touch {B : Nat} (h : Below B w0 w) (k : Touch S w w') (hB : B ≤ w0.heap.size) (hS : ∀ k, S k → B ≤ k) : Below B w0 w' :=
  h.trans ⟨k.os, k.tape, k.output, k.size, fun i hi => k.block i (Nat.lt_of_lt_of_le hi (Nat.le_trans hB h.size)) (fun hs => by have := hS i hs; omega)⟩

/-- A block of known cells that nobody froze. -/
def Box (w : World) (b : Nat) (T : TypeId) (cs : Array Value) : Prop := w.heap[b]? = some (.cells cs T (0, 0))
theorem Box.cell {b : Nat} {T : TypeId} {cs : Array Value} (h : Box w b T cs) (j : Nat) : w.cell? ⟨b, j, none⟩ = cs[j]? := cell_of_row w b j cs T (0, 0) h
theorem Box.frozen {b : Nat} {T : TypeId} {cs : Array Value} (h : Box w b T cs) (j : Nat) : w.frozen? ⟨b, j, none⟩ = false := frozen_of_row w b j cs T h
theorem Box.lt {b : Nat} {T : TypeId} {cs : Array Value} (h : Box w b T cs) : b < w.heap.size := by
  rcases Nat.lt_or_ge b w.heap.size with h' | h'
  · exact h'
  · unfold Box at h; rw [Array.getElem?_eq_none h'] at h; cases h
theorem Box.set {b : Nat} {T : TypeId} {cs : Array Value} (h : Box w b T cs) (j : Nat) (u : Value) : Box (w.setCell ⟨b, j, none⟩ u) b T (cs.setIfInBounds j u) := heap_setCell_same w b j cs T u h
theorem Box.set_other {b : Nat} {T : TypeId} {cs : Array Value} (h : Box w b T cs) {p : Addr} (hp : b ≠ p.block) (u : Value) : Box (w.setCell p u) b T cs := (Below.heap_setCell w p u b hp).trans h
theorem Box.drew {b : Nat} {T : TypeId} {cs : Array Value} (h : Box w b T cs) : Box w.drew b T cs := h
theorem Box.alloc {b : Nat} {T : TypeId} {cs : Array Value} (h : Box w b T cs) (o : Obj) : Box (w.alloc o) b T cs := (Below.heap_alloc w o b h.lt).trans h
theorem Box.new (w : World) (T : TypeId) (cs : Array Value) : Box (w.alloc (.cells cs T)) w.heap.size T cs := heap_alloc_new w _
theorem Box.touch {b : Nat} {T : TypeId} {cs : Array Value} (h : Box w b T cs) (k : Touch S w w') (hb : ¬ S b) : Box w' b T cs := (k.block b h.lt hb).trans h
theorem Box.below {B b : Nat} {T : TypeId} {cs : Array Value} (h : Box w b T cs) (k : Below B w w') (hb : b < B) : Box w' b T cs := (k.block b hb).trans h
theorem Box.grown {b : Nat} {row : Option Nat} {T : TypeId} {cs : Array Value} (h : Box w b T cs) (k : w.grownBy w' row) (hb : some b ≠ row) : Box w' b T cs := (k.block b h.lt hb).trans h

/-- An owned row in a world of which its block has stayed. -/
theorem own_stays {base e size : Nat} {v : Value} {n : Nat} {xs : List Value} (h : w.ownsRow base e size v n xs) (hk : ∀ k, v.ownBlock = some k → w'.heap[k]? = w.heap[k]?) : w'.ownsRow base e size v n xs := by
  obtain ⟨h1, h2⟩ := h
  refine ⟨h1, ?_⟩
  rcases h2 with h2 | ⟨g, cap, cur, rfl, hb, hg, h3⟩
  · exact .inl h2
  · exact .inr ⟨g, cap, cur, rfl, hb, (hk g rfl).trans hg, h3⟩
theorem own_lt {base e size : Nat} {v : Value} {n : Nat} {xs : List Value} (h : w.ownsRow base e size v n xs) : ∀ k, v.ownBlock = some k → k < w.heap.size := by
  intro k hk
  rcases h.2 with ⟨rfl, _⟩ | ⟨g, cap, cur, rfl, _, hg, _⟩
  · cases hk
  · cases hk
    rcases Nat.lt_or_ge g w.heap.size with h' | h'
    · exact h'
    · rw [Array.getElem?_eq_none h'] at hg; cases hg
theorem own_touch {base e size : Nat} {v : Value} {n : Nat} {xs : List Value} (h : w.ownsRow base e size v n xs) (k : Touch S w w') (hb : ∀ b, v.ownBlock = some b → ¬ S b) : w'.ownsRow base e size v n xs :=
  own_stays h (fun b hv => k.block b (own_lt h b hv) (hb b hv))
theorem own_base {base base' e size : Nat} {v : Value} {n : Nat} {xs : List Value} (h : w.ownsRow base e size v n xs) (hb : ∀ k, v.ownBlock = some k → base' ≤ k) : w.ownsRow base' e size v n xs := by
  obtain ⟨h1, h2⟩ := h
  refine ⟨h1, ?_⟩
  rcases h2 with h2 | ⟨g, cap, cur, rfl, _, hg, h3⟩
  · exact .inl h2
  · exact .inr ⟨g, cap, cur, rfl, hb g rfl, hg, h3⟩
theorem Touch.set1 {b : Nat} (h : Touch (· = b) w w') (j : Nat) (u : Value) : Touch (· = b) w (w'.setCell ⟨b, j, none⟩ u) := h.setCell (p := ⟨b, j, none⟩) rfl u
theorem Touch.drewN (h : Touch S w w') (n : Nat) : Touch S w (w'.drewN n) := ⟨h.os, h.tape, h.output, h.size, h.block⟩
theorem Box.drewN {b : Nat} {T : TypeId} {cs : Array Value} (h : Box w b T cs) (n : Nat) : Box (w.drewN n) b T cs := h
theorem Below.drewN {B : Nat} (h : Below B w w') (n : Nat) : Below B w (w'.drewN n) := ⟨h.os, h.tape, h.output, h.size, h.block⟩
/-- A whole row stored anew. -/
theorem Box.setRow {b : Nat} {T : TypeId} {cs : Array Value} (h : Box w b T cs) (new : Array Value) : Box (w.setRow b new) b T new := setRow_heap w b cs new T (0, 0) h
theorem Box.setRow_other {b g : Nat} {T : TypeId} {cs : Array Value} (h : Box w b T cs) (new : Array Value) (hb : b ≠ g) : Box (w.setRow g new) b T cs := (Go.setRow_other w g b new hb).trans h
theorem Touch.setRow (h : Touch S w w') {g : Nat} (hg : S g ∨ w.heap.size ≤ g) (new : Array Value) : Touch S w (w'.setRow g new) :=
  ⟨h.os, h.tape, h.output, by simpa using h.size, fun k hk hS => (Go.setRow_other w' g k new (fun e => hg.elim (fun h1 => hS (e ▸ h1)) (fun h1 => by omega))).trans (h.block k hk hS)⟩
end Go.Proofs.Ytadgnemfjmiafaa
