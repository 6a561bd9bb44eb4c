/- The walk of CrateBack, for bytes as many as can be read. Conditions: the bytes lie in memory. -/
import Derived.Test.YtadgnemfjmiafaaWg
import Derived.Test.YtadgnemfjmiafaaAppL
namespace Go.Proofs.Ytadgnemfjmiafaa
open Go.RowKit

theorem crateBack_walk (W : World) (a0 : Option Addr) (len0 cap0 : Nat) (z0 : List Int) (w0 : Ints .u8 W a0 len0 z0) (_c0 : len0 ≤ cap0) (_b0 : len0 * 1 ≤ 140737488351232)
    (a1 : Option Addr) (len1 cap1 : Nat) (z1 : List Int) (w1 : Ints .u8 W a1 len1 z1) (_c1 : len1 ≤ cap1) (b1 : len1 * 1 ≤ 140737488351232) :
    Calls Try.prog 5 #[.slice a0 len0 cap0, .slice a1 len1 cap1] W fun e W' => e = .returned (.bool true) ∧ Below W.heap.size W W' := by
  obtain ⟨i0, hi, hz0, hz1, hz2⟩ := info_parts info5
  have HA := Lib.hid (Bytes.of_ints w0)
  have HM := Lib.hid (Bytes.of_ints w1)
  have hM := HA.out.2.2.1
  clear w0 w1
  by_cases hbig : 4096 < len0
  · have C1 := Lib.hid (put_big a0 len0 cap0 W hbig hM)
    clear hM
    go_enter Try.func5, Try.ntmps5
    go_wp2_with fail
    refine C1.out.mono ?_
    rintro e w1 ⟨rfl, rfl⟩
    go_wp2_with fail
    refine (alive_any _).mono ?_
    rintro e w1 ⟨rfl, bel1⟩
    go_wp2_with fail
    go_ret
    exact ⟨rfl, bel1⟩
  · clear hM
    have C1 := Lib.hid (put_any a0 len0 cap0 z0 W HA.out (by omega))
    have hr := Lib.hid (crateOf_range HA.out.2.1)
    have hl0 := HA.out.1
    have hl1 := HM.out.1
    go_enter Try.func5, Try.ntmps5
    go_wp2_with fail
    refine C1.out.mono ?_
    rintro e w1 ⟨v1, rfl, own1, B1⟩
    obtain ⟨ad1, k1, rfl, _, hb1⟩ := own_slice own1 hr.out (by unfold maxLen; omega)
    have HB1 := Lib.hid (hb1.alloc (.cells #[] 5)).src
    have HO1 := Lib.hid (World.ownsRow_lit (base := W.heap.size) (e := 5) (size := 1) w1 #[] 0 B1.size (by decide) rfl)
    have hsz1 := B1.size
    clear own1 hb1 C1
    go_wp2_with (at_builtin; refine wpList_append_src rfl (.tmp 24) (.tmp 25) 22 rfl W.heap.size 5 i0 (.int .u8 0) 1 1 Try.underlying22 hi hz0 hz1 hz2 rfl (by decide) _ _ _ rfl HO1.out _ _ _ _ rfl HB1.out ?c2 ?c3 ?c4 ?_)
    case c2 => unfold maxLen; omega
    case c3 => omega
    case c4 => simp; omega
    intro v2 w2 own2 g2
    have B2 := (B1.alloc hsz1 (.cells #[] 5)).grown g2 (by simp; omega) (own_ge HO1.out)
    have HO2 := Lib.hid (show w2.ownsRow W.heap.size 5 1 v2 (len0 + 12) ((crateOf z0).map (Value.int .u8)) by simpa using own2)
    have HM2 := Lib.hid (HM.out.below B2).src
    have hsz2 := B2.size
    clear own2 g2 HO1 HB1 B1
    go_wp2_with (at_builtin; refine wpList_append_big rfl (.tmp 26) (.tmp 27) 22 rfl W.heap.size 5 i0 (.int .u8 0) Try.underlying22 hi hz0 hz1 hz2 rfl _ _ _ rfl HO2.out _ _ _ _ rfl HM2.out ?c3 ?c4 ?_)
    case c3 => omega
    case c4 => omega
    intro v3 w3 own3 g3
    have B3 := B2.grown g3 hsz2 (own_ge HO2.out)
    rw [← List.map_append] at own3
    obtain ⟨ad3, k3, rfl, hk3, hb3⟩ := own_slice own3 (fun x hx => (List.mem_append.1 hx).elim (hr.out x) (HM.out.2.1 x)) (by unfold maxLen; omega)
    have CG := Lib.hid (get_any ad3 (len0 + 12 + len1) k3 _ w3 hb3 hk3)
    have HB3 := Lib.hid B3
    clear own3 g3 hk3 hb3 HO2 HM2 B2 B3 hsz2 hsz1
    go_wp2_with fail
    refine CG.out.mono ?_
    rintro e w4 ⟨ad4, k4, rfl, _, hb4, bel4⟩
    rw [getOf_crate z0 z1 (by omega)] at hb4 ⊢
    simp only [hl0] at hb4 ⊢
    have B4 := Lib.hid (HB3.out.trans (bel4.mono HB3.out.size))
    have HB4 := Lib.hid hb4
    clear CG hb4 bel4 HB3
    go_wp2_with fail
    refine (alive_any _).mono ?_
    rintro e w5 ⟨rfl, bel5⟩
    have hs1 := (HB4.out.below bel5).str k4
    have hs2 := (HA.out.below (B4.out.trans (bel5.mono B4.out.size))).str cap0
    have B5 := Lib.hid (B4.out.trans (bel5.mono B4.out.size))
    clear HB4 bel5 B4 HM hr
    go_wp2_with fail
    go_ret
    exact ⟨rfl, B5.out⟩
end Go.Proofs.Ytadgnemfjmiafaa
