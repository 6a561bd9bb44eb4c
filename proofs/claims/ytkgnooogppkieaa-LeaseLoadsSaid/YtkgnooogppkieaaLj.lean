/- lease: alive. Conditions: none. -/
import Derived.Test.YtkgnooogppkieaaLi
namespace Go.Proofs.Ytkgnooogppkieaa
open Go.RowKit
set_option linter.unusedVariables false
set_option linter.unusedSimpArgs false

theorem int_cells {w : World} {base : Nat} {v : Value} {L : List Lz} (h : w.ownsRow base 3 1 v L.length (ids L)) (k : Nat) (p : Lz) (hk : L[k]? = some p) :
    ∃ g cap, v = .slice (some ⟨g, 0, none⟩) L.length cap ∧ g < w.heap.size ∧ w.cell? ⟨g, k, none⟩ = some (.int .i64 p.1) := by
  have h0 : (ids L)[k]? = some (.int .i64 p.1) := by simp [ids, hk]
  have hlt := (List.getElem?_eq_some_iff.1 hk).1
  rcases h.2 with ⟨_, he⟩ | ⟨g, cap, cur, rfl, hb, hg, _⟩
  · omega
  · have hc := h.cells (g := g) rfl
    have hb : g < w.heap.size := own_lt h g rfl
    refine ⟨g, cap, rfl, hb, ?_⟩
    have := hc _ _ h0; rwa [Addr.add_lit, Nat.zero_add] at this

set_option maxHeartbeats 1000000 in
theorem alive_any (w : World) : Calls Try.prog 10 #[] w fun e w' => e = .returned (.bool true) ∧ Below w.heap.size w w' := by
  have C0 := Lib.hid (new_any w)
  go_enter Try.func10, Try.ntmps10
  go_wp2_with fail
  refine C0.out.mono ?_
  rintro e w1 ⟨rfl, hT1, b1⟩
  have HT1 := Lib.hid hT1
  have HB1 := Lib.hid b1
  have C1 := Lib.hid (open_all (3, 10, 5) hT1 b1.size (by simp) (by simp))
  rw [show openOk [] (3, 10, 5) = true by decide] at C1
  simp only [if_true] at C1
  rw [show insL [] (3, 10, 5) = [(3, 10, 5)] by decide] at C1
  clear hT1 b1 C0
  go_wp2_with fail
  refine C1.out.mono ?_
  rintro e w2 ⟨rfl, v2, hT2, g2⟩
  have HT2 := Lib.hid hT2
  have HB2 := Lib.hid (g2.below HB1.out (Nat.le_refl _) HT1.out.of_ge)
  have hv : ∀ p ∈ [((3, 10, 5) : Lz)], rightB p = true := by decide
  have C2 := Lib.hid (ended_any 16 hT2 HB2.out.size (by simp) hv)
  rw [show endL [(3, 10, 5)] 16 = [(3, 10, 5)] by decide] at C2
  clear hT2 g2 C1
  go_wp2_with fail
  refine C2.out.mono ?_
  rintro e w3 ⟨l3, rfl, own3, b3⟩
  have HT3 := Lib.hid (HT2.out.below b3 (Nat.le_refl _))
  have HB3 := Lib.hid (HB2.out.trans (b3.mono HB2.out.size))
  obtain ⟨g, cap, rfl, hg, d0⟩ := int_cells own3 0 (3, 10, 5) rfl
  have C3 := Lib.hid (ended_any 15 HT3.out HB3.out.size (by simp) hv)
  rw [show endL [(3, 10, 5)] 15 = [] by decide] at C3
  clear b3 C2 own3
  go_wp2_with fail
  refine C3.out.mono ?_
  rintro e w4 ⟨l4, rfl, own4, b4⟩
  obtain ⟨ad4, c4, rfl, _⟩ := own_shape own4
  have d4 : w4.cell? ⟨g, 0, none⟩ = some (.int .i64 3) := (b4.cell (p := ⟨g, 0, none⟩) hg).trans d0
  have HT4 := Lib.hid (HT3.out.below b4 (Nat.le_refl _))
  have HB4 := Lib.hid (HB3.out.trans (b4.mono HB3.out.size))
  have C4 := Lib.hid (renew_all 3 16 HT4.out HB4.out.size (by simp) (by simp))
  rw [show clockB 16 = true by decide, show isIn [(3, 10, 5)] 3 = true by decide, show renL [(3, 10, 5)] 3 16 = [(3, 10, 16)] by decide] at C4
  simp only [Bool.and_self, if_true] at C4
  clear b4 C3 own4 d0
  go_wp2_with fail
  refine C4.out.mono ?_
  rintro e w5 ⟨rfl, v5, hT5, g5⟩
  have HT5 := Lib.hid hT5
  have HB5 := Lib.hid (g5.below HB4.out (Nat.le_refl _) HT4.out.of_ge)
  have hv5 : ∀ p ∈ [((3, 10, 16) : Lz)], rightB p = true := by decide
  have C5 := Lib.hid (ended_any 16 hT5 HB5.out.size (by simp) hv5)
  rw [show endL [(3, 10, 16)] 16 = [] by decide] at C5
  clear hT5 g5 C4 d4
  go_wp2_with fail
  refine C5.out.mono ?_
  rintro e w6 ⟨l6, rfl, own6, b6⟩
  obtain ⟨ad6, c6, rfl, _⟩ := own_shape own6
  have HB6 := Lib.hid (HB5.out.trans (b6.mono HB5.out.size))
  go_wp2
  go_ret
  exact ⟨rfl, HB6.out⟩
end Go.Proofs.Ytkgnooogppkieaa
