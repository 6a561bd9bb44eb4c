/- The walk of CrateJoins. Conditions: the bytes lie in memory. -/
import Derived.Test.YtadgnemfjmiafaaWm
namespace Go.Proofs.Ytadgnemfjmiafaa
open Go.RowKit

theorem whyOf_ok {k : Nat} (h : k = 30 ∨ k = 31 ∨ k = 32) : whyOf k = 0 ↔ k = 30 := by
  unfold whyOf; rcases h with rfl | rfl | rfl <;> simp
theorem row_src {w : World} {base e n : Nat} {v : Value} {xs : List Value} (h : w.ownsRow base e 1 v n xs) (h1 : ∀ u ∈ xs, u.oneCell' = true) : ∃ ad c, v = .slice ad n c ∧ n ≤ c ∧ Src w ad n 1 xs := by
  rcases h.2 with ⟨rfl, rfl⟩ | ⟨g, cap, cur, rfl, _, _, hc, _⟩
  · exact ⟨none, 0, rfl, Nat.le_refl _, h.1, h1, .inl rfl⟩
  · refine ⟨_, _, rfl, hc, h.1, h1, .inr ⟨_, rfl, fun j u hj => ?_⟩⟩
    have hlt : j < n * 1 := by
      have := List.getElem?_eq_some_iff.1 hj
      obtain ⟨hlt, _⟩ := this
      rw [h.1] at hlt; exact hlt
    have := (h.cellAt j hlt).trans hj
    rw [addr_add, Nat.zero_add]; exact this
theorem row_src2 {w : World} {base e n c : Nat} {p : Option Addr} {xs : List Value} (h : w.ownsRow base e 1 (.slice p n c) n xs) (h1 : ∀ u ∈ xs, u.oneCell' = true) : Src w p n 1 xs := by
  obtain ⟨ad, c', he, _, hs⟩ := row_src h h1
  injection he with h1 h2 h3
  rw [h1]; exact hs
theorem yv_one (xs : List Yld) : ∀ u ∈ xs.map yv, u.oneCell' = true := by
  intro u hu; obtain ⟨x, _, rfl⟩ := List.mem_map.1 hu; rfl
/-- the k-th of a row of slices. -/
theorem row_at {w : World} {base n : Nat} {v : Value} {xs : List Yld} (h : w.ownsRow base 22 1 v n (xs.map yv)) (k : Nat) (x : Yld) (hk : xs[k]? = some x) : ∃ g c, v = .slice (some ⟨g, 0, none⟩) n c ∧ w.cell? ⟨g, k, none⟩ = some (.slice x.ad x.zs.length x.c) ∧ k < n := by
  have hlt : k < xs.length := (List.getElem?_eq_some_iff.1 hk).1
  have hn : xs.length = n := by have := h.1; simpa using this
  rcases h.2 with ⟨_, h0⟩ | ⟨g, cap, cur, rfl, _, _, hc, _⟩
  · omega
  · refine ⟨g, cap, rfl, ?_, by omega⟩
    rw [h.cellAt k (by omega), List.getElem?_map, hk]; rfl
theorem YRow.bytes {w : World} {base : Nat} {x : Yld} (h : w.ownsRow base 5 1 (yv x) x.zs.length (x.zs.map (Value.int .u8)) ∧ (∀ z ∈ x.zs, 0 ≤ z ∧ z < 256) ∧ x.zs.length ≤ 4096) : Bytes w x.ad x.zs.length x.zs := by
  obtain ⟨ad, c, he, hb⟩ := own_bytes h.1 h.2.1 (by unfold maxLen; omega)
  injection he with h1 h2 h3
  rw [h1]; exact hb

set_option maxRecDepth 100000 in
set_option maxHeartbeats 4000000 in
theorem crateJoins_walk (W : World) (a0 : Option Addr) (len0 cap0 : Nat) (z0 : List Int) (w0 : Ints .u8 W a0 len0 z0) (c0 : len0 ≤ cap0) (_b0 : len0 * 1 ≤ 140737488351232)
    (a1 : Option Addr) (len1 cap1 : Nat) (z1 : List Int) (w1 : Ints .u8 W a1 len1 z1) (c1 : len1 ≤ cap1) (_b1 : len1 * 1 ≤ 140737488351232) :
    Calls Try.prog 7 #[.slice a0 len0 cap0, .slice a1 len1 cap1] W fun e W' => e = .returned (.bool true) ∧ Below W.heap.size W W' := by
  obtain ⟨i0, hi, hz0, hz1, hz2⟩ := info_parts info5
  obtain ⟨j0, hj, hy0, hy1, hy2⟩ := info_parts row22
  have HA := Lib.hid (Bytes.of_ints w0)
  have HM := Lib.hid (Bytes.of_ints w1)
  have hlz0 := HA.out.1
  have hlz1 := HM.out.1
  clear w0 w1
  by_cases hbig : 20000 < len0 ∨ 20000 < len1
  · have hb0 : (decide ((20000 : Int) < len0) || decide ((20000 : Int) < len1)) = true := by simp; omega
    by_cases h0 : 20000 < len0
    · clear hb0 hbig
      go_enter Try.func7, Try.ntmps7
      go_wp2_with fail
      refine (alive_any _).mono ?_
      rintro e w1 ⟨rfl, bel1⟩
      go_wp2_with fail
      go_ret
      exact ⟨rfl, bel1⟩
    · have h1 : 20000 < len1 := by omega
      clear hb0 hbig
      go_enter Try.func7, Try.ntmps7
      go_wp2_with fail
      refine (alive_any _).mono ?_
      rintro e w1 ⟨rfl, bel1⟩
      go_wp2_with fail
      go_ret
      exact ⟨rfl, bel1⟩
  have h0 : ¬ 20000 < len0 := by omega
  have h1 : ¬ 20000 < len1 := by omega
  have C1 := Lib.hid (split_any a0 len0 cap0 z0 W HA.out c0 (by omega))
  clear hbig
  go_enter Try.func7, Try.ntmps7
  go_wp2_with fail
  refine C1.out.mono ?_
  rintro e w1 ⟨v1, xs1, rfl, hx1, hr1, hf1, bel1⟩
  obtain ⟨L0, hL0⟩ : ∃ n, n = (splitAll z0).2.1 := ⟨_, rfl⟩
  obtain ⟨Y0, hY0⟩ : ∃ n, n = (splitAll z0).2.2 := ⟨_, rfl⟩
  have hy0' := splitAll_why z0
  rw [← hY0] at hy0'
  rw [← hL0, ← hY0]
  by_cases hw : Y0 = 30 ∧ L0 = 0
  · obtain ⟨hy, hl⟩ := hw
    have hj1 := Lib.hid (splitAll_joins z0 z1 (by rw [Prod.ext_iff]; exact ⟨by rw [← hL0, hl], by rw [← hY0, hy]⟩))
    have e0 : ((whyOf Y0 : Nat) : Int) = 0 := by rw [hy]; rfl
    have e1 : ((L0 : Nat) : Int) = 0 := by omega
    have HX1 := Lib.hid hx1
    have HR1 := Lib.hid hr1
    have HF1 := Lib.hid hf1
    have B1 := Lib.hid bel1
    rw [e0, e1]
    have C2 := Lib.hid (split_any a1 len1 cap1 z1 w1 (HM.out.below bel1) c1 (by omega))
    clear hL0 hY0 hy0' e0 e1 hl hy hx1 hr1 hf1 bel1 C1
    go_wp2_with fail
    refine C2.out.mono ?_
    rintro e w2 ⟨v2, xs2, rfl, hx2, hr2, hf2, bel2⟩
    have B2 := Lib.hid (B1.out.trans (bel2.mono B1.out.size))
    obtain ⟨p1, k1, rfl, hk1, src1⟩ := row_src HR1.out (yv_one xs1)
    obtain ⟨p2, k2, rfl, hk2, src2⟩ := row_src hr2 (yv_one xs2)
    have S2 := Lib.hid hr2
    have R1 := Lib.hid (own_below HR1.out bel2)
    have F1 := Lib.hid (fun x hx => (⟨own_below (HF1.out x hx).1 bel2, (HF1.out x hx).2⟩ : w2.ownsRow W.heap.size 5 1 (yv x) x.zs.length (x.zs.map (Value.int .u8)) ∧ (∀ z ∈ x.zs, 0 ≤ z ∧ z < 256) ∧ x.zs.length ≤ 4096))
    have F2 := Lib.hid hf2
    have HX2 := Lib.hid hx2
    have HA2 := Lib.hid ((HA.out.below B2.out).alloc (.cells #[] 5)).src
    have HM2 := Lib.hid (HM.out.below B2.out)
    have hr0 := Lib.hid HA.out.2.1
    have hr1' := Lib.hid HM.out.2.1
    have HO2 := Lib.hid (World.ownsRow_lit (base := w2.heap.size) (e := 5) (size := 1) w2 #[] 0 (Nat.le_refl _) (by decide) rfl)
    have hm2 : xs2.length ≤ 20000 := by have := (splitAll_left z1).2; rw [← HX2.out, List.length_map] at this; omega
    have hm1 : xs1.length ≤ 20000 := by have := (splitAll_left z0).2; rw [← HX1.out, List.length_map] at this; omega
    clear hr2 hf2 hx2 bel2 HR1 HF1 C2 src1 src2 HA HM B1
    go_wp2_with (at_builtin; refine wpList_append_src rfl (.tmp 45) (.tmp 46) 22 rfl w2.heap.size 5 i0 (.int .u8 0) 1 1 Try.underlying22 hi hz0 hz1 hz2 rfl (by decide) _ _ _ rfl HO2.out _ _ _ _ rfl HA2.out ?c2 ?c3 ?c4 ?_)
    case c2 => unfold maxLen; omega
    case c3 => omega
    case c4 => simp
    intro v3 w3 own3 g3
    have B3 := ((Below.refl w2.heap.size w2).alloc (Nat.le_refl _) (.cells #[] 5)).grown g3 (by simp) (own_ge HO2.out)
    have HO3 := Lib.hid (show w3.ownsRow w2.heap.size 5 1 v3 len0 (z0.map (Value.int .u8)) by simpa using own3)
    have HM3 := Lib.hid (HM2.out.below B3).src
    have hsz3 := B3.size
    clear own3 g3 HO2 HA2
    go_wp2_with (at_builtin; refine wpList_append_src rfl (.tmp 47) (.tmp 48) 22 rfl w2.heap.size 5 i0 (.int .u8 0) 1 1 Try.underlying22 hi hz0 hz1 hz2 rfl (by decide) _ _ _ rfl HO3.out _ _ _ _ rfl HM3.out ?c2 ?c3 ?c4 ?_)
    case c2 => unfold maxLen; omega
    case c3 => omega
    case c4 => omega
    intro v4 w4 own4 g4
    have B4 := B3.grown g4 hsz3 (own_ge HO3.out)
    rw [← List.map_append] at own4
    obtain ⟨p4, k4, rfl, hk4, hb4⟩ := own_slice own4 (fun x hx => (List.mem_append.1 hx).elim (hr0.out x) (hr1'.out x)) (by unfold maxLen; omega)
    have C3 := Lib.hid (split_any p4 (len0 + len1) k4 _ w4 hb4 hk4 (by omega))
    have HB4 := Lib.hid B4
    clear own4 g4 hk4 hb4 HO3 HM3 B4 B3 hsz3 HM2 hr0 hr1'
    go_wp2_with fail
    refine C3.out.mono ?_
    rintro e w5 ⟨v5, xs3, rfl, hx3, hr5, hf5, bel5⟩
    have B5 := HB4.out.trans (bel5.mono HB4.out.size)
    rw [hj1.out] at hx3 ⊢
    simp only at hx3 ⊢
    obtain ⟨p5, k5, rfl, hk5, src5⟩ := row_src hr5 (yv_one xs3)
    have hn3 : xs3.length = xs1.length + xs2.length := by
      have := congrArg List.length hx3
      rw [← HX1.out, ← HX2.out] at this
      simpa using this
    have HX3 := Lib.hid hx3
    have S5 := Lib.hid hr5
    have F5 := Lib.hid hf5
    have B5 := Lib.hid B5
    have Q1 := Lib.hid (own_below R1.out B5.out)
    have Q2 := Lib.hid (own_below S2.out B5.out)
    have G1 := Lib.hid (fun x hx => own_below (F1.out x hx).1 B5.out)
    clear hx3 hr5 hf5 bel5 src5 C3 hj1 HB4 hk1 hk2 hk5
    obtain ⟨L1, hL1⟩ : ∃ n, n = (splitAll z1).2.1 := ⟨_, rfl⟩
    obtain ⟨Y1, hY1⟩ : ∃ n, n = whyOf (splitAll z1).2.2 := ⟨_, rfl⟩
    rw [← hL1, ← hY1]
    clear hL1 hY1
    have ey : ((Y1 : Int) != (Y1 : Int)) = false := bne_self_eq_false _
    have el : ((L1 : Int) != (L1 : Int)) = false := bne_self_eq_false _
    have en : ((xs3.length : Int) != (xs1.length : Int) + (xs2.length : Int)) = false := by simp; omega
    have HN3 := Lib.hid hn3
    have hm3 : xs3.length ≤ 40000 := by omega
    clear hn3
    have HT1 := Lib.hid (row_src2 (Q1.out.alloc (.cells #[] 22)) (yv_one xs1))
    have HO5 := Lib.hid (World.ownsRow_lit (base := w5.heap.size) (e := 22) (size := 1) w5 #[] 0 (Nat.le_refl _) (by decide) rfl)
    go_wp2_with (at_builtin; refine wpList_append_src rfl (.tmp 72) (.tmp 73) 31 rfl w5.heap.size 22 j0 _ 1 24 Try.underlying31 hj hy0 hy1 hy2 rfl (by decide) _ _ _ rfl HO5.out _ _ _ _ rfl HT1.out ?d2 ?d3 ?d4 ?_)
    case d2 => unfold maxLen; omega
    case d3 => omega
    intro v6 w6 own6 g6
    have B6 := ((Below.refl w5.heap.size w5).alloc (Nat.le_refl _) (.cells #[] 22)).grown g6 (by simp) (own_ge HO5.out)
    have HO6 := Lib.hid (show w6.ownsRow w5.heap.size 22 1 v6 xs1.length (xs1.map yv) by simpa using own6)
    have HT2 := Lib.hid (row_src2 (own_below Q2.out B6) (yv_one xs2))
    have hsz6 := B6.size
    clear own6 g6 HO5 HT1
    go_wp2_with (at_builtin; refine wpList_append_src rfl (.tmp 74) (.tmp 75) 31 rfl w5.heap.size 22 j0 _ 1 24 Try.underlying31 hj hy0 hy1 hy2 rfl (by decide) _ _ _ rfl HO6.out _ _ _ _ rfl HT2.out ?e2 ?e3 ?e4 ?_)
    case e2 => unfold maxLen; omega
    case e3 => omega
    case e4 => exact hsz6
    intro v7 w7 own7 g7
    have B7 := B6.grown g7 hsz6 (own_ge HO6.out)
    rw [← List.map_append] at own7
    obtain ⟨p7, k7, rfl, hk7, src7⟩ := row_src own7 (yv_one _)
    have HB7 := Lib.hid B7
    have HO7 := Lib.hid own7
    have HO5 := Lib.hid (own_below S5.out B7)
    have BF1 := Lib.hid (fun x hx => YRow.bytes (w := w7) (base := W.heap.size) (x := x) ⟨own_below (G1.out x hx) B7, (F1.out x hx).2⟩)
    have BF2 := Lib.hid (fun x hx => YRow.bytes (w := w7) (base := w1.heap.size) (x := x) ⟨own_below (own_below (F2.out x hx).1 B5.out) B7, (F2.out x hx).2⟩)
    have BF3 := Lib.hid (fun x hx => YRow.bytes (w := w7) (base := w4.heap.size) (x := x) ⟨own_below (F5.out x hx).1 B7, (F5.out x hx).2⟩)
    have HW7 := Lib.hid (B2.out.trans ((B5.out.trans (B7.mono B5.out.size)).mono B2.out.size))
    clear own7 g7 B7 src7 HO6 HT2 hsz6 Q1 Q2 G1 F1 F2 F5 S5 S2 R1 hk7 B5 B2 B6
    have hX12 : ∀ (k : Nat) (x : Yld), (xs1 ++ xs2)[k]? = some x → ∃ y, xs3[k]? = some y ∧ y.zs = x.zs ∧ x ∈ xs1 ++ xs2 ∧ y ∈ xs3 := by
      intro k x hk
      have h1 := congrArg (fun l : List (List Int) => l[k]?) HX3.out
      rw [← HX1.out, ← HX2.out, ← List.map_append] at h1
      simp only [List.getElem?_map, hk, Option.map_some] at h1
      cases hy : xs3[k]? with
      | none => rw [hy] at h1; cases h1
      | some y =>
        rw [hy] at h1
        exact ⟨y, rfl, by simpa using h1, List.mem_of_getElem? hk, List.mem_of_getElem? hy⟩
    have HX12 := Lib.hid hX12
    have hlen : (xs1 ++ xs2).length = xs1.length + xs2.length := List.length_append
    have HLEN := Lib.hid hlen
    clear hX12 HX1 HX2 HX3 hlen
    go_wp2
    go_loopw [78] (fun i wr => ∃ k : Nat, k ≤ xs1.length + xs2.length ∧ i = .int .i64 k ∧ Below w7.heap.size w7 wr) (fun i _ => xs1.length + xs2.length - (intOf i).toNat)
    case atStart => exact ⟨0, Nat.zero_le _, rfl, Below.refl _ _⟩
    case round =>
      obtain ⟨k, hk, rfl, hbel⟩ := hrel
      by_cases hlt : k < xs1.length + xs2.length
      · obtain ⟨x, hx⟩ : ∃ x, (xs1 ++ xs2)[k]? = some x := ⟨_, List.getElem?_eq_getElem (by rw [HLEN.out]; exact hlt)⟩
        obtain ⟨y, hy, hyz, hxm, hym⟩ := HX12.out k x hx
        obtain ⟨g7, c7, e7, d7, _⟩ := row_at HO7.out k x hx
        obtain ⟨rfl, rfl⟩ : p7 = some ⟨g7, 0, none⟩ ∧ k7 = c7 := by injection e7 with e1 e2 e3; exact ⟨e1, e3⟩
        obtain ⟨g5, c5, e5, d5, hk3⟩ := row_at HO5.out k y hy
        obtain ⟨rfl, rfl⟩ : p5 = some ⟨g5, 0, none⟩ ∧ k5 = c5 := by injection e5 with e1 e2 e3; exact ⟨e1, e3⟩
        have HBX := Lib.hid (show Bytes w7 x.ad x.zs.length x.zs from (List.mem_append.1 hxm).elim (BF1.out x) (BF2.out x))
        have HBY := Lib.hid (BF3.out y hym)
        have g7l : g7 < w7.heap.size := World.block_lt_of_cell? w7 _ d7
        have g5l : g5 < w7.heap.size := World.block_lt_of_cell? w7 _ d5
        have d7r : wr.cell? ⟨g7, k, none⟩ = some (.slice x.ad x.zs.length x.c) := (hbel.cell (p := ⟨g7, k, none⟩) g7l).trans d7
        have D5 := Lib.hid d5
        have HB := Lib.hid hbel
        clear e7 e5 hx hy hxm hym d7 d5 hbel
        rw [hyz] at HBY D5
        clear hyz
        go_wp2
        refine wp_region_below (B := w7.heap.size) (w0 := w7) (by kernel_rfl) (by kernel_rfl) HB.out ?_
        go_big_quiet_want; go_big_quiet_op; go_big_quiet_on
        go_big_quiet_want; apply quiet_value; (· (intro w' hw; have := (HBX.out.below hw).str x.c; go_simp; try rfl)); simp only [Act.put, List.setIfInBounds_toArray, List.set_cons_succ, List.set_cons_zero]; go_big_quiet_on
        go_big_quiet_want; go_big_quiet_op; go_big_quiet_on
        go_big_quiet_want; go_big_quiet_op; go_big_quiet_on
        go_big_quiet_want; apply quiet_value; (· (intro w' hw; go_simp; try rfl)); simp only [Act.put, List.setIfInBounds_toArray, List.set_cons_succ, List.set_cons_zero]; go_big_quiet_on
        go_big_quiet_want; apply quiet_value; (· (intro w' hw; have d5 := (hw.cell (p := ⟨g5, k, none⟩) g5l).trans D5.out; go_simp; try rfl)); simp only [Act.put, List.setIfInBounds_toArray, List.set_cons_succ, List.set_cons_zero]; go_big_quiet_on
        go_big_quiet_want; apply quiet_value; (· (intro w' hw; have := (HBY.out.below hw).str y.c; go_simp; try rfl)); simp only [Act.put, List.setIfInBounds_toArray, List.set_cons_succ, List.set_cons_zero]; go_big_quiet_on
        go_big_quiet_want; apply quiet_value (v := .bool false); (· (intro w' hw; go_simp; try rfl)); simp only [Act.put, List.setIfInBounds_toArray, List.set_cons_succ, List.set_cons_zero]; go_big_quiet_on
        refine wpQuiet_nil ?_
        intro w8 hb8
        go_wp2
        go_roundw
        case rel => exact ⟨k + 1, by omega, by go_num, hb8⟩
        case measure => simp [intOf]; omega
      · obtain rfl : k = xs1.length + xs2.length := by omega
        have HB := Lib.hid (HW7.out.trans (hbel.mono HW7.out.size))
        clear hbel
        go_wp2_with fail
        refine (alive_any _).mono ?_
        rintro e w8 ⟨rfl, bel8⟩
        go_wp2_with fail
        go_ret
        exact ⟨rfl, HB.out.trans (bel8.mono HB.out.size)⟩
  · have hg : ¬ whyOf Y0 = 0 ∨ (whyOf Y0 = 0 ∧ 0 < L0) := by
      by_cases h : whyOf Y0 = 0
      · exact .inr ⟨h, by have := (whyOf_ok hy0').1 h; omega⟩
      · exact .inl h
    clear hx1 hr1 hf1 C1 HA HM hw hL0 hY0 hy0'
    rcases hg with hg | ⟨hg, hg2⟩
    · have e0 : (((whyOf Y0 : Nat) : Int) != 0) = true := by simp; omega
      clear hg
      go_wp2_with fail
      refine (alive_any _).mono ?_
      rintro e w2 ⟨rfl, bel2⟩
      go_wp2_with fail
      go_ret
      exact ⟨rfl, bel1.trans (bel2.mono bel1.size)⟩
    · have e0 : ((whyOf Y0 : Nat) : Int) = 0 := by omega
      rw [e0]
      clear hg e0
      go_wp2_with fail
      refine (alive_any _).mono ?_
      rintro e w2 ⟨rfl, bel2⟩
      go_wp2_with fail
      go_ret
      exact ⟨rfl, bel1.trans (bel2.mono bel1.size)⟩
end Go.Proofs.Ytadgnemfjmiafaa
