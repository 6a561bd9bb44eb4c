/-
  A slice of structs that comes in: its elements as rows of cells, no element's bulk greater than the slice's. Conditions: none.
-/
import Derived.Test.YtbkjhogfpcmcbaaDoorOpenS
namespace Go.Proofs.YtbkjhogfpcmcbaaDoor
open Go.ChangeShapes Go.WideShapes Go.ChangeAt Go.RowKit Go.Deep

theorem agg_part {H : Type} {xs : List (DataW H × List MemPlace)} {y : DataW H × List MemPlace} (h : y ∈ xs) : Rows.uptoBulk y.1 ≤ Rows.uptoBulk (DataW.agg (xs.map (·.1))) := by
  have := part_le (l := xs.map (·.1)) (List.mem_map.2 ⟨y, h, rfl⟩)
  simp only [Rows.uptoBulk]
  omega
theorem str_part {H : Type} {s : ByteArray} {B : Nat} (h : Rows.uptoBulk (DataW.lit (.string s.data.toList) : DataW H) ≤ B) : s.size ≤ B := by
  simp only [Rows.uptoBulk] at h
  have e : s.data.toList.length = s.size := by rw [Array.length_toList]; rfl
  omega
theorem open_rows_b {H : Type} {enc : TypeId × Value → H} {W : World} {t e : TypeId} {C : Nat} {a : Option Addr} {len cap : Nat} {d : DataW H} {p : List MemPlace}
    (ht : Tryd.prog.underlying t = some (.slice e)) (hC : Tryd.prog.cellsOf e = C) (hC0 : 0 < C)
    (h : DataW.Trod enc Tryd.prog W 0 (fun _ => true) true t (.slice a len cap) d p) :
    ∃ rows : List (List Value), RowsAt W C a len rows ∧ len ≤ cap ∧ cap ≤ maxLen ∧
      ∀ r ∈ rows, r.length = C ∧ ∃ n y, DataW.trod enc Tryd.prog W 0 (fun _ => true) true n e r = some y ∧ Rows.uptoBulk y.1 ≤ Rows.uptoBulk d := by
  obtain ⟨fuel, hf⟩ := h
  rcases open_slice ht hf with ⟨hcs, hx⟩ | ⟨x, l, c, m, n, D, Pl, hcs, _, hl, hm, hmm, hx, hi⟩
  · simp [Value.cells] at hcs
    obtain ⟨rfl, rfl, rfl⟩ := hcs
    exact ⟨[], ⟨rfl, .inl rfl⟩, Nat.le_refl _, Nat.zero_le _, by simp⟩
  · simp [Value.cells] at hcs
    obtain ⟨rfl, rfl, rfl⟩ := hcs
    simp at hmm
    subst hmm
    rw [hC] at hi
    obtain ⟨sp, hd⟩ : ∃ sp, d = DataW.slice ((List.range len).map D) sp := ⟨_, congrArg Prod.fst hx⟩
    have hDb : ∀ i, i < len → Rows.uptoBulk (D i) ≤ Rows.uptoBulk d := fun i hi' => by
      rw [hd]
      have := part_le (l := (List.range len).map D) (List.mem_map.2 ⟨i, by simpa using hi', rfl⟩)
      simp only [Rows.uptoBulk]
      omega
    have hrow : ∀ i, i < len → ∃ r : List Value, r.length = C ∧ (∀ j, j < C → W.cell? (x.add (i * C + j)) = r[j]?) ∧ ∃ n y, DataW.trod enc Tryd.prog W 0 (fun _ => true) true n e r = some y ∧ Rows.uptoBulk y.1 ≤ Rows.uptoBulk d := fun i hl' => by
      obtain ⟨cs', hc, ht'⟩ := hi i (by omega)
      obtain ⟨_, hcl, hat⟩ := World.cells?_some hc
      exact ⟨cs', hcl, fun j hj => by rw [← Go.Deep.add_add]; exact hat j hj, n, _, ht', hDb i hl'⟩
    refine ⟨(List.range len).attach.map fun i => Classical.choose (hrow i.1 (by simpa using i.2)), ⟨by simp, ?_⟩, hl, hm, ?_⟩
    · by_cases h0 : len = 0
      · exact .inl h0
      · right
        obtain ⟨b, off, spot⟩ := x
        have hc0 := Classical.choose_spec (hrow 0 (by omega))
        obtain ⟨u0, hu0⟩ : ∃ u, (Classical.choose (hrow 0 (by omega)))[0]? = some u := ⟨_, List.getElem?_eq_getElem (by rw [hc0.1]; exact hC0)⟩
        have hcell := (hc0.2.1 0 hC0).trans hu0
        have hspot : spot = none := by simpa [Addr.add] using World.cell?_spot hcell
        subst hspot
        refine ⟨b, off, rfl, ?_, fun i r hr j u hu => ?_⟩
        · have := World.block_lt_of_cell? W _ hcell
          simpa [Addr.add] using this
        · have hil : i < len := by have := (List.getElem?_eq_some_iff.1 hr).1; simpa using this
          have hs := Classical.choose_spec (hrow i hil)
          have hr' : Classical.choose (hrow i hil) = r := by
            rw [List.getElem?_map, List.getElem?_eq_getElem (by simpa using hil)] at hr
            simpa using hr
          rw [hr'] at hs
          have hj : j < C := by have := (List.getElem?_eq_some_iff.1 hu).1; rw [hs.1] at this; exact this
          have := (hs.2.1 j hj).trans hu
          rwa [Addr.add_lit, ← Nat.add_assoc] at this
    · intro r hr
      obtain ⟨i, _, rfl⟩ := List.mem_map.1 hr
      have hs := Classical.choose_spec (hrow i.1 (by simpa using i.2))
      exact ⟨hs.1, hs.2.2⟩
end Go.Proofs.YtbkjhogfpcmcbaaDoor
