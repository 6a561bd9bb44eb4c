/- parcels: a new net, alive. Conditions: none. -/
import Derived.Test.YtejoggbebmmlkaaWg
namespace Go.Proofs.Ytejoggbebmmlkaa
open Go.RowKit
set_option linter.unusedVariables false
set_option linter.unusedSimpArgs false
variable {w w' : World} {base n m : Nat} {v : Value} {ps : List Pk} {M : List (Int × Int)}

theorem new_net (w : World) : Calls Try.prog 8 #[] w fun e w' => e = .returned (.pointer (some ⟨w.heap.size + 1, 0, none⟩)) ∧ Net w' w.heap.size (w.heap.size + 1) w.heap.size (.slice none 0 0) [] [] ∧ Below w.heap.size w w' :=
  (new_any w).mono fun _ _ ⟨h1, h2, h3⟩ => ⟨h1, ⟨h2.1, ⟨#[], 0, h2.2.1, rfl⟩, World.ownsRow_nil _ _ _ _, by omega, Nat.le_refl _⟩, h3⟩
theorem Goes.below {v v' : Value} {w0 : World} {B : Nat} (h : Goes w w' n m v v') (hb : Below B w0 w) (hB : B ≤ w0.heap.size) (hS : ∀ k, Of n m v k → B ≤ k) : Below B w0 w' := Below.touch hb h.touch hB hS

theorem alive_any (w : World) : Calls Try.prog 9 #[] w fun e w' => e = .returned (.bool true) ∧ Below w.heap.size w w' := by
  have C0 := Lib.hid (new_net w)
  go_enter Try.func9, Try.ntmps9
  go_wp2_with fail
  refine C0.out.mono ?_
  rintro e w1 ⟨rfl, hN1, bel1⟩
  have HN1 := Lib.hid hN1
  have HB1 := Lib.hid bel1
  have C1 := Lib.hid (send_ok (1, 2, ⟨#[97]⟩) hN1 bel1.size (by simp) (by simp))
  have hl1 := hN1.box.lt
  clear hN1 bel1 C0
  unfold pv at C1
  go_wp2_with fail
  refine C1.out.mono ?_
  rintro e w2 ⟨rfl, v2, hN2, g2⟩
  have HN2 := Lib.hid hN2
  have HB2 := Lib.hid (g2.below HB1.out (Nat.le_refl _) HN1.out.of_ge)
  have C2 := Lib.hid (take_yes 0 (1, 2, ⟨#[97]⟩) hN2 HB2.out.size rfl (by simp))
  unfold pv at C2
  clear hN2 g2 C1
  go_wp2_with fail
  refine C2.out.mono ?_
  rintro e w3 ⟨rfl, v3, hN3, g3⟩
  have HB3 := Lib.hid (g3.below HB2.out (Nat.le_refl _) HN2.out.of_ge)
  have HN3 := Lib.hid (show Net w3 w.heap.size (w.heap.size + 1) w.heap.size v3 [] [] from hN3)
  have hsz := HB3.out.size
  clear hN3 g3 C2
  go_wp2_with fail
  refine (len_any (HN3.out.alloc _)).mono ?_
  rintro e w4 ⟨rfl, rfl⟩
  go_wp2
  go_ret
  exact ⟨rfl, HB3.out.alloc hsz _⟩
end Go.Proofs.Ytejoggbebmmlkaa
