/- The walks of CratePuts, CrateGets. Conditions: the bytes lie in memory. -/
import Derived.Test.YtadgnemfjmiafaaWf
namespace Go.Proofs.Ytadgnemfjmiafaa
open Go.RowKit

theorem bytes_nil (w : World) : Bytes w none 0 [] := ⟨rfl, by simp, Nat.zero_le _, .inl rfl⟩

theorem cratePuts_walk (W : World) (a0 : Option Addr) (len0 cap0 : Nat) (z0 : List Int) (w0 : Ints .u8 W a0 len0 z0) (_c0 : len0 ≤ cap0) (_b0 : len0 * 1 ≤ 140737488351232) :
    Calls Try.prog 3 #[.slice a0 len0 cap0] W fun e W' => e = .returned (.bool true) ∧ Below W.heap.size W W' := by
  have HB := Lib.hid (Bytes.of_ints w0)
  have hM := HB.out.2.2.1
  clear w0
  by_cases hbig : 4096 < len0
  · have C1 := Lib.hid (put_big a0 len0 cap0 W hbig hM)
    have C2 := Lib.hid (rput_big a0 len0 cap0 W hbig hM)
    clear hM
    go_enter Try.func3, Try.ntmps3
    go_wp2_with fail
    refine C1.out.mono ?_
    rintro e w1 ⟨rfl, rfl⟩
    go_wp2_with fail
    refine C2.out.mono ?_
    rintro e w1 ⟨rfl, rfl⟩
    go_wp2_with fail
    refine (alive_any _).mono ?_
    rintro e w1 ⟨rfl, bel1⟩
    have hs := (bytes_nil w1).str 0
    go_wp2_with fail
    go_ret
    exact ⟨rfl, bel1⟩
  · have C1 := Lib.hid (put_any a0 len0 cap0 z0 W HB.out (by omega))
    have hr := crateOf_range HB.out.2.1
    go_enter Try.func3, Try.ntmps3
    go_wp2_with fail
    refine C1.out.mono ?_
    rintro e w1 ⟨v1, rfl, own1, bel1⟩
    obtain ⟨ad1, c1, rfl, _, hb1⟩ := own_slice own1 hr (by unfold maxLen; omega)
    have HB1 := Lib.hid hb1
    have HP := Lib.hid (HB.out.below bel1)
    clear own1 hb1 C1
    go_wp2_with fail
    refine (rput_any a0 len0 cap0 z0 _ HP.out (by omega)).mono ?_
    rintro e w2 ⟨v2, rfl, own2, bel2⟩
    obtain ⟨ad2, c2, rfl, _, hb2⟩ := own_slice own2 hr (by unfold maxLen; omega)
    have HB2 := Lib.hid hb2
    have HB1 := Lib.hid (HB1.out.below bel2)
    have B2 := bel1.trans (bel2.mono bel1.size)
    clear own2 hb2 bel1 bel2 HP HB
    go_wp2_with fail
    refine (alive_any _).mono ?_
    rintro e w3 ⟨rfl, bel3⟩
    have hs1 := (HB1.out.below bel3).str c1
    have hs2 := (HB2.out.below bel3).str c2
    have B3 := Lib.hid (B2.trans (bel3.mono B2.size))
    clear HB1 HB2 bel3 B2 hr
    go_wp2_with fail
    go_ret
    exact ⟨rfl, B3.out⟩
end Go.Proofs.Ytadgnemfjmiafaa
