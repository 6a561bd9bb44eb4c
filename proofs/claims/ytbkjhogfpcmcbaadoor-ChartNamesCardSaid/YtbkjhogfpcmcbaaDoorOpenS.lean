/-
  A slice of structs that comes in: its elements as rows of cells. Conditions: none.
-/
import Derived.Test.YtbkjhogfpcmcbaaDoorOpen
import Derived.Deep.Slices
import Derived.Deep.Fields
import Derived.ChangeSame
namespace Go.Proofs.YtbkjhogfpcmcbaaDoor
open Go.ChangeShapes Go.WideShapes Go.ChangeAt Go.RowKit Go.Deep

/-- the rows of a slice whose elements have C cells. -/
def RowsAt (w : World) (C : Nat) (a : Option Addr) (len : Nat) (rows : List (List Value)) : Prop :=
  rows.length = len ∧ (len = 0 ∨ ∃ b off, a = some ⟨b, off, none⟩ ∧ b < w.heap.size ∧ ∀ i r, rows[i]? = some r → ∀ j u, r[j]? = some u → w.cell? ⟨b, off + i * C + j, none⟩ = some u)

theorem open_rows {H : Type} {enc : TypeId × Value → H} {W : World} {t e : TypeId} {C : Nat} {a : Option Addr} {len cap : Nat} {d : DataW H} {p : List MemPlace}
    (ht : Tryd.prog.underlying t = some (.slice e)) (hC : Tryd.prog.cellsOf e = C) (hC0 : 0 < C)
    (h : DataW.Trod enc Tryd.prog W 0 (fun _ => true) true t (.slice a len cap) d p) :
    ∃ rows : List (List Value), RowsAt W C a len rows ∧ ((d = .nil ∧ len = 0 ∧ cap = 0 ∧ a = none) ∨ ∃ el sp, d = .slice el sp ∧ el.length = len) ∧ len ≤ cap ∧ cap ≤ maxLen ∧
      ∀ r ∈ rows, r.length = C ∧ ∃ n y, DataW.trod enc Tryd.prog W 0 (fun _ => true) true n e r = some y := by
  obtain ⟨fuel, hf⟩ := h
  rcases open_slice ht hf with ⟨hcs, hx⟩ | ⟨x, l, c, m, n, D, Pl, hcs, _, hl, hm, hmm, hx, hi⟩
  · simp [Value.cells] at hcs
    obtain ⟨rfl, rfl, rfl⟩ := hcs
    exact ⟨[], ⟨rfl, .inl rfl⟩, .inl ⟨congrArg Prod.fst hx, rfl, rfl, rfl⟩, Nat.le_refl _, Nat.zero_le _, by simp⟩
  · simp [Value.cells] at hcs
    obtain ⟨rfl, rfl, rfl⟩ := hcs
    simp at hmm
    subst hmm
    rw [hC] at hi
    have hrow : ∀ i, i < len → ∃ r : List Value, r.length = C ∧ (∀ j, j < C → W.cell? (x.add (i * C + j)) = r[j]?) ∧ ∃ n y, DataW.trod enc Tryd.prog W 0 (fun _ => true) true n e r = some y := fun i hl' => by
      obtain ⟨cs', hc, ht'⟩ := hi i (by omega)
      obtain ⟨_, hcl, hat⟩ := World.cells?_some hc
      exact ⟨cs', hcl, fun j hj => by rw [← Go.Deep.add_add]; exact hat j hj, n, _, ht'⟩
    refine ⟨(List.range len).attach.map fun i => Classical.choose (hrow i.1 (by simpa using i.2)), ⟨by simp, ?_⟩, .inr ⟨_, _, congrArg Prod.fst hx, by simp⟩, hl, hm, ?_⟩
    · by_cases h0 : len = 0
      · exact .inl h0
      · right
        obtain ⟨b, off, spot⟩ := x
        have hc0 := Classical.choose_spec (hrow 0 (by omega))
        obtain ⟨u0, hu0⟩ : ∃ u, (Classical.choose (hrow 0 (by omega)))[0]? = some u := ⟨_, List.getElem?_eq_getElem (by rw [hc0.1]; exact hC0)⟩
        have hcell := (hc0.2.1 0 hC0).trans hu0
        have hspot : spot = none := by simpa [Addr.add] using World.cell?_spot hcell
        subst hspot
        refine ⟨b, off, rfl, ?_, fun i r hr j u hu => ?_⟩
        · have := World.block_lt_of_cell? W _ hcell
          simpa [Addr.add] using this
        · have hil : i < len := by have := (List.getElem?_eq_some_iff.1 hr).1; simpa using this
          have hs := Classical.choose_spec (hrow i hil)
          have hr' : Classical.choose (hrow i hil) = r := by
            rw [List.getElem?_map, List.getElem?_eq_getElem (by simpa using hil)] at hr
            simpa using hr
          rw [hr'] at hs
          have hj : j < C := by have := (List.getElem?_eq_some_iff.1 hu).1; rw [hs.1] at this; exact this
          have := (hs.2.1 j hj).trans hu
          rwa [Addr.add_lit, ← Nat.add_assoc] at this
    · intro r hr
      obtain ⟨i, _, rfl⟩ := List.mem_map.1 hr
      have hs := Classical.choose_spec (hrow i.1 (by simpa using i.2))
      exact ⟨hs.1, hs.2.2⟩
theorem RowsAt.below {w w' : World} {C : Nat} {a : Option Addr} {len : Nat} {rows : List (List Value)} {B : Nat} (h : RowsAt w C a len rows) (hb : Below B w w') (hB : w.heap.size ≤ B) : RowsAt w' C a len rows := by
  refine ⟨h.1, h.2.imp id ?_⟩
  rintro ⟨b, off, rfl, hlt, hc⟩
  exact ⟨b, off, rfl, Nat.lt_of_lt_of_le hlt hb.size, fun i r hr j u hu => (hb.cell (p := ⟨b, off + i * C + j, none⟩) (by show b < B; omega)).trans (hc i r hr j u hu)⟩
end Go.Proofs.YtbkjhogfpcmcbaaDoor
