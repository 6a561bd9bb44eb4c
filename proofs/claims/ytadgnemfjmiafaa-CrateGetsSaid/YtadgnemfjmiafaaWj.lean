/- The walk of CrateGets. Conditions: the bytes lie in memory. -/
import Derived.Test.YtadgnemfjmiafaaWh
namespace Go.Proofs.Ytadgnemfjmiafaa
open Go.RowKit

theorem crateGets_walk (W : World) (a0 : Option Addr) (len0 cap0 : Nat) (z0 : List Int) (w0 : Ints .u8 W a0 len0 z0) (c0 : len0 ≤ cap0) (_b0 : len0 * 1 ≤ 140737488351232) :
    Calls Try.prog 4 #[.slice a0 len0 cap0] W fun e W' => e = .returned (.bool true) ∧ Below W.heap.size W W' := by
  have HB := Lib.hid (Bytes.of_ints w0)
  have C1 := Lib.hid (get_any a0 len0 cap0 z0 W HB.out c0)
  clear w0
  go_enter Try.func4, Try.ntmps4
  go_wp2_with fail
  refine C1.out.mono ?_
  rintro e w1 ⟨ad1, k1, rfl, _, hb1, bel1⟩
  have HP := Lib.hid (HB.out.below bel1)
  have HB1 := Lib.hid hb1
  clear hb1 C1
  have C2 := Lib.hid (rget_any a0 len0 cap0 z0 w1 HP.out c0)
  obtain ⟨g, hg⟩ : ∃ g, g = getOf z0 := ⟨_, rfl⟩
  unfold Got at C2
  rw [← hg] at HB1 C2 ⊢
  clear hg
  obtain ⟨body, n, k⟩ := g
  simp only at HB1 C2 ⊢
  go_wp2_with fail
  refine C2.out.mono ?_
  rintro e w2 ⟨ad2, k2, rfl, _, hb2, bel2⟩
  have HB2 := Lib.hid hb2
  have HB1 := Lib.hid (HB1.out.below bel2)
  have B2 := bel1.trans (bel2.mono bel1.size)
  clear hb2 bel1 bel2 HP HB C2
  go_wp2_with fail
  refine (alive_any _).mono ?_
  rintro e w3 ⟨rfl, bel3⟩
  have hs1 := (HB1.out.below bel3).str k1
  have hs2 := (HB2.out.below bel3).str k2
  have B3 := Lib.hid (B2.trans (bel3.mono B2.size))
  clear HB1 HB2 bel3 B2
  go_wp2_with fail
  go_ret
  exact ⟨rfl, B3.out⟩
end Go.Proofs.Ytadgnemfjmiafaa
