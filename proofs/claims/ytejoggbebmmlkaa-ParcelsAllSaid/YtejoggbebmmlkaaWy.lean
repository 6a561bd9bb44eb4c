/- Has a net the document's messages and pairs? Conditions: both lie in the call's own memory, and say the same. -/
import Derived.Test.YtejoggbebmmlkaaWx
namespace Go.Proofs.Ytejoggbebmmlkaa
open Go.RowKit
set_option linter.unusedVariables false
set_option linter.unusedSimpArgs false
variable {w w' : World} {base n m : Nat} {l a v : Value} {ps : List Pk} {A M : List (Int × Int)}

theorem iv_cells {vv : Value} {L : List Nat} {b0 : Nat} (h : w.ownsRow b0 3 1 vv L.length (iv L)) (k t : Nat) (hk : L[k]? = some t) :
    ∃ g cap, vv = .slice (some ⟨g, 0, none⟩) L.length cap ∧ g < w.heap.size ∧ w.cell? ⟨g, k, none⟩ = some (.int .i64 (t : Int)) := by
  have h0 : (iv L)[k]? = some (.int .i64 (t : Int)) := by simp [iv, hk]
  have hlt := (List.getElem?_eq_some_iff.1 hk).1
  rcases h.2 with ⟨_, he⟩ | ⟨g, cap, cur, rfl, hb, hg, _⟩
  · omega
  · have hc := h.cells (g := g) rfl
    have hb : g < w.heap.size := own_lt h g rfl
    refine ⟨g, cap, rfl, hb, ?_⟩
    have := hc _ _ h0; rwa [Addr.add_lit, Nat.zero_add] at this

set_option maxRecDepth 100000 in
set_option maxHeartbeats 4000000 in
theorem stands_any (hN : Net w base n m v ps M) (hR : RNet w base l a ps A) (hS : Same M A) (hl : ps.length ≤ 2000) (hA : A.length ≤ 1000) :
    Calls Try.prog 20 #[.pointer (some ⟨n, 0, none⟩), rv l a] w fun e w' => e = .returned (.bool true) ∧ Below w.heap.size w w' := by
  obtain ⟨ad, c, rfl, _⟩ := own_shape hR.row
  obtain ⟨aa, ca, rfl, _⟩ := own_shape hR.prs
  have HW0 : ∀ wr, Below (w.heap.size + 1) (w.alloc (.cells #[.slice ad ps.length c, .slice aa A.length ca] 45)) wr → Net wr base n m v ps M ∧ RNet wr base (.slice ad ps.length c) (.slice aa A.length ca) ps A ∧ Box wr w.heap.size 45 #[.slice ad ps.length c, .slice aa A.length ca] := fun wr hb =>
    ⟨(hN.alloc _).below hb (by simp), (hR.alloc _).below hb (by simp), (Box.new w 45 _).below hb (by omega)⟩
  have BB := Lib.hid ((Below.refl w.heap.size w).alloc (Nat.le_refl _) (.cells #[.slice ad ps.length c, .slice aa A.length ca] 45))
  have hsz : (w.alloc (.cells #[.slice ad ps.length c, .slice aa A.length ca] 45)).heap.size = w.heap.size + 1 := by simp
  rw [← hsz] at HW0
  have HSM := Lib.hid hS
  have HW := Lib.hid HW0
  unfold rv
  clear hN hR hS HW0
  go_enter Try.func20, Try.ntmps20
  go_upto_region 1 with (fail)
  generalize w.alloc (.cells #[.slice ad ps.length c, .slice aa A.length ca] 45) = w1 at HW BB hsz ⊢
  refine wp_region_below (B := w1.heap.size) (w0 := w1) (by kernel_rfl) (by kernel_rfl) (Below.refl _ _) ?_
  go_big_quiet_want; go_big_quiet_op; go_big_quiet_on
  go_big_quiet_want; apply quiet_call (f := 12); (· (intro w hw; go_simp; try rfl)); (· (exact fun w' hw => in_class (len_any (HW.out w' hw).1) hw)); simp only [Act.put, List.setIfInBounds_toArray, List.set_cons_succ, List.set_cons_zero]; go_big_quiet_on
  go_big_quiet_want; apply quiet_value; (· (intro w' hw; go_simp; try rfl)); simp only [Act.put, List.setIfInBounds_toArray, List.set_cons_succ, List.set_cons_zero]; go_big_quiet_on
  go_big_quiet_want; apply quiet_value; (· (intro w' hw; have x0 : w'.cell? ⟨w.heap.size, 0, none⟩ = some (.slice ad ps.length c) := (HW.out w' hw).2.2.cell 0; go_simp; try rfl)); simp only [Act.put, List.setIfInBounds_toArray, List.set_cons_succ, List.set_cons_zero]; go_big_quiet_on
  go_big_quiet_want; apply quiet_value; (· (intro w' hw; go_simp; try rfl)); simp only [Act.put, List.setIfInBounds_toArray, List.set_cons_succ, List.set_cons_zero]; go_big_quiet_on
  go_big_quiet_want; apply quiet_value; (· (intro w' hw; go_simp; try rfl)); simp only [Act.put, List.setIfInBounds_toArray, List.set_cons_succ, List.set_cons_zero]; go_big_quiet_on
  refine wpQuiet_nil ?_
  intro w2 hb2
  have HB2 := Lib.hid hb2
  clear hb2
  go_wp2
  go_loopw [5] (fun i wr => ∃ k : Int, -1 ≤ k ∧ k ≤ (ps.length : Int) + 1 ∧ i = .int .i64 k ∧ Below w1.heap.size w1 wr) (fun i _ => ((ps.length : Int) + 1 - intOf i).toNat)
  case atStart => exact ⟨-1, by omega, by omega, rfl, HB2.out⟩
  case round =>
    obtain ⟨k, hk1, hk2, rfl, hbel⟩ := hrel
    have HB := Lib.hid hbel
    have x0 : wr.cell? ⟨w.heap.size, 0, none⟩ = some (.slice ad ps.length c) := (HW.out wr hbel).2.2.cell 0
    clear hbel
    by_cases hle : k ≤ (ps.length : Int)
    · obtain ⟨p, hp⟩ : ∃ p, (getI ps k).getD zp = p := ⟨_, rfl⟩
      obtain ⟨q, hq⟩ : ∃ q, (getI ps k).isSome = q := ⟨_, rfl⟩
      have C1 := Lib.hid (at_all k (HW.out wr HB.out).1 hl)
      rw [hp, hq] at C1
      unfold pv at C1
      have HP := Lib.hid hp
      have HQ := Lib.hid hq
      clear hp hq
      go_wp2_with fail
      refine C1.out.mono ?_
      rintro e w3 ⟨rfl, b3⟩
      have HB3 := Lib.hid ((HB.out.trans (b3.mono HB.out.size)).alloc (Nat.le_trans HB.out.size b3.size) (.cells #[.int .i64 p.1, .int .i64 p.2.1, .string p.2.2] 27))
      have C2 := Lib.hid (rat_all k (HW.out _ HB3.out).2.1 (by omega))
      rw [HP.out, HQ.out] at C2
      unfold pv rv at C2
      have HX3 := Lib.hid (Box.new w3 27 #[.int .i64 p.1, .int .i64 p.2.1, .string p.2.2])
      have y0 : (w3.alloc (.cells #[.int .i64 p.1, .int .i64 p.2.1, .string p.2.2] 27)).cell? ⟨w.heap.size, 0, none⟩ = some (.slice ad ps.length c) := (HW.out _ HB3.out).2.2.cell 0
      have y1 : (w3.alloc (.cells #[.int .i64 p.1, .int .i64 p.2.1, .string p.2.2] 27)).cell? ⟨w.heap.size, 1, none⟩ = some (.slice aa A.length ca) := (HW.out _ HB3.out).2.2.cell 1
      have z0 : w3.cell? ⟨w.heap.size, 0, none⟩ = some (.slice ad ps.length c) := (HW.out _ (HB.out.trans (b3.mono HB.out.size))).2.2.cell 0
      have z1 : w3.cell? ⟨w.heap.size, 1, none⟩ = some (.slice aa A.length ca) := (HW.out _ (HB.out.trans (b3.mono HB.out.size))).2.2.cell 1
      have hw3 : w.heap.size < w3.heap.size := by have := HB.out.size; have := b3.size; omega
      clear b3 C1 x0
      go_wp2_with fail
      refine C2.out.mono ?_
      rintro e w4 ⟨rfl, b4⟩
      have HX4 := Lib.hid (HX3.out.below b4 HX3.out.lt)
      have HB4 := Lib.hid (HB3.out.trans (b4.mono HB3.out.size))
      have u0 : w4.cell? ⟨w3.heap.size, 0, none⟩ = some (.int .i64 p.1) := HX4.out.cell 0
      have u1 : w4.cell? ⟨w3.heap.size, 1, none⟩ = some (.int .i64 p.2.1) := HX4.out.cell 1
      have u2 : w4.cell? ⟨w3.heap.size, 2, none⟩ = some (.string p.2.2) := HX4.out.cell 2
      have hw4 := HX4.out.lt
      clear b4 C2 y0 y1 z0 z1 hw3
      go_wp2
      go_roundw
      case rel => exact ⟨k + 1, by omega, by omega, by go_num, HB4.out.alloc HB4.out.size _⟩
      case measure => simp [intOf]; omega
    · go_wp2
      obtain ⟨wo, rfl⟩ : ∃ wo : World, wo = wr := ⟨_, rfl⟩
      clear x0 hle hk1 hk2
      go_loopw [10] (fun i wr => ∃ x : Int, -1 ≤ x ∧ x ≤ 4 ∧ i = .int .i64 x ∧ Below w1.heap.size w1 wr) (fun i _ => (4 - intOf i).toNat)
      case atStart => exact ⟨-1, by omega, by omega, rfl, HB.out⟩
      case round =>
        obtain ⟨x, hx1, hx2, rfl, hbel⟩ := hrel
        clear HB
        have HB := Lib.hid hbel
        clear hbel
        by_cases hx4 : x < 4
        · go_wp2
          refine wp_region_phase (fun w' => Below w1.heap.size w1 w') [true, true, false, true, true, false, false, false] 7 _ _ _ (by kernel_rfl) rfl rfl (by kernel_rfl) rfl rfl (fun _ _ _ _ _ h => h) (HB.out.drew) ?_
          intro S HS
          simp only [taken, leftOut]
          go_big_quiet_want; go_big_quiet_op; go_big_quiet_on
          go_big_quiet_want; go_big_quiet_op; go_big_quiet_on
          go_big_quiet_want; apply quiet_value; (· (intro w' hw; have hb := (HS.out w').1 hw; have x0 : w'.cell? ⟨w.heap.size, 0, none⟩ = some (.slice ad ps.length c) := (HW.out w' hb).2.2.cell 0; have x1 : w'.cell? ⟨w.heap.size, 1, none⟩ = some (.slice aa A.length ca) := (HW.out w' hb).2.2.cell 1; go_simp; try rfl)); simp only [Act.put, List.setIfInBounds_toArray, List.set_cons_succ, List.set_cons_zero]; go_big_quiet_on
          go_big_quiet_want; go_big_quiet_op; go_big_quiet_on
          refine wpQuiet_nil ?_
          refine wpTail_more ?_
          have C1 := Lib.hid (for_any x (HW.out _ HB.out.drew).1 hl)
          go_wp2_with fail
          refine C1.out.mono ?_
          rintro e w3 ⟨l3, rfl, own3, b3⟩
          obtain ⟨L, hL⟩ : ∃ L, L = idx x ps ps.length := ⟨_, rfl⟩
          have hLl : L.length ≤ 2000 := by rw [hL]; exact Nat.le_trans (idx_len _ _ _) hl
          have HLL := Lib.hid hL
          rw [← hL] at own3
          clear hL
          obtain ⟨ad3, c3, rfl, _⟩ := own_shape own3
          have HB3 := Lib.hid (HB.out.drew.trans (b3.mono HB.out.drew.size))
          have HO3 := Lib.hid own3
          clear own3 b3 C1
          go_wp2_with fail
          refine ThenS.mk ((HS.out _).2 HB3.out) ?_
          refine wpTail_more ?_
          have C2 := Lib.hid (rfor_any x (HW.out _ HB3.out).2.1 hl)
          unfold rv at C2
          go_wp2_with fail
          refine C2.out.mono ?_
          rintro e w4 ⟨l4, rfl, own4, b4⟩
          rw [← HLL.out] at own4
          obtain ⟨ad4, c4, rfl, _⟩ := own_shape own4
          have HB4 := Lib.hid (HB3.out.trans (b4.mono HB3.out.size))
          have HO4 := Lib.hid own4
          have HO34 := Lib.hid (own_stays HO3.out (fun k hk => b4.block k (own_lt HO3.out k hk)))
          clear own4 b4 C2 HO3
          go_wp2_with fail
          refine ThenS.mk ((HS.out _).2 HB4.out) ?_
          refine wpTail_more ?_
          go_wp2_with fail
          refine ThenS.mk ((HS.out _).2 HB4.out) ?_
          refine wpTail_last ?_
          clear HB HB3
          go_wp2
          obtain ⟨wo, rfl⟩ : ∃ wo : World, wo = w4 := ⟨_, rfl⟩
          go_loopw [65] (fun i wr => ∃ j : Nat, j ≤ L.length ∧ i = .int .i64 j ∧ Below w1.heap.size w1 wr ∧ wr.ownsRow 0 3 1 (.slice ad3 L.length c3) L.length (iv L) ∧ wr.ownsRow 0 3 1 (.slice ad4 L.length c4) L.length (iv L)) (fun i _ => L.length - (intOf i).toNat)
          case atStart => exact ⟨0, Nat.zero_le _, rfl, HB4.out, own_base HO34.out (fun k hk => Nat.zero_le _), own_base HO4.out (fun k hk => Nat.zero_le _)⟩
          case round =>
            obtain ⟨j, hj, rfl, hbel, hO3, hO4⟩ := hrel
            clear HB4 HO34 HO4
            have HB := Lib.hid hbel
            have HO3 := Lib.hid hO3
            have HO4 := Lib.hid hO4
            clear hbel hO3 hO4
            by_cases hj2 : j < L.length
            · obtain ⟨t, ht⟩ : ∃ t, L[j]? = some t := ⟨_, List.getElem?_eq_getElem hj2⟩
              obtain ⟨g3, cap3, he3, hg3, d3⟩ := iv_cells HO3.out j t ht
              obtain ⟨g4, cap4, he4, hg4, d4⟩ := iv_cells HO4.out j t ht
              obtain ⟨rfl, rfl⟩ : ad3 = some ⟨g3, 0, none⟩ ∧ c3 = cap3 := by simpa using he3
              obtain ⟨rfl, rfl⟩ : ad4 = some ⟨g4, 0, none⟩ ∧ c4 = cap4 := by simpa using he4
              clear he3 he4 ht
              go_wp2
              go_quiet (fail)
              go_wp2
              go_roundw
              case rel => exact ⟨j + 1, by omega, by go_num, Below.drewN HB.out _, own_stays HO3.out (fun _ _ => rfl), own_stays HO4.out (fun _ _ => rfl)⟩
              case measure => simp [intOf]; omega
            · go_wp2
              obtain ⟨wo, rfl⟩ : ∃ wo : World, wo = wr := ⟨_, rfl⟩
              clear HO3 HO4 hj2 hj
              go_loopw [14] (fun i wr => ∃ y : Int, -1 ≤ y ∧ y ≤ 4 ∧ i = .int .i64 y ∧ Below w1.heap.size w1 wr) (fun i _ => (4 - intOf i).toNat)
              case atStart => exact ⟨-1, by omega, by omega, rfl, HB.out⟩
              case round =>
                obtain ⟨y, hy1, hy2, rfl, hbel⟩ := hrel
                clear HB
                have HB := Lib.hid hbel
                clear hbel
                by_cases hy4 : y < 4
                · obtain ⟨q, hq⟩ : ∃ q, decide (pairOf2 x y ∈ M) = q := ⟨_, rfl⟩
                  have HQ2 := Lib.hid ((HSM.out.ap x y).trans hq)
                  have HQ1 := Lib.hid hq
                  clear hq
                  go_wp2
                  refine wp_region_below (B := w1.heap.size) (w0 := w1) (by kernel_rfl) (by kernel_rfl) HB.out ?_
                  go_big_quiet_want; go_big_quiet_op; go_big_quiet_on
                  go_big_quiet_want; go_big_quiet_op; go_big_quiet_on
                  go_big_quiet_want; go_big_quiet_op; go_big_quiet_on
                  go_big_quiet_want; apply quiet_call (f := 18); (· (intro w hw; go_simp; try rfl)); (· (exact fun w' hw => in_below (apart_is x y (HW.out w' hw).1 q HQ1.out) hw (Nat.le_refl _))); simp only [Act.put, List.setIfInBounds_toArray, List.set_cons_succ, List.set_cons_zero]; go_big_quiet_on
                  go_big_quiet_want; apply quiet_value; (· (intro w' hw; have x0 : w'.cell? ⟨w.heap.size, 0, none⟩ = some (.slice ad ps.length c) := (HW.out w' hw).2.2.cell 0; have x1 : w'.cell? ⟨w.heap.size, 1, none⟩ = some (.slice aa A.length ca) := (HW.out w' hw).2.2.cell 1; go_simp; try rfl)); simp only [Act.put, List.setIfInBounds_toArray, List.set_cons_succ, List.set_cons_zero]; go_big_quiet_on
                  go_big_quiet_want; go_big_quiet_op; go_big_quiet_on
                  go_big_quiet_want; go_big_quiet_op; go_big_quiet_on
                  go_big_quiet_want; apply quiet_call (f := 32); (· (intro w hw; go_simp; try rfl)); (· (exact fun w' hw => in_below ((rapart_any x y (HW.out w' hw).2.1 hA).mono fun _ _ ⟨e, b⟩ => ⟨by rw [e, HQ2.out], b⟩) hw (Nat.le_refl _))); simp only [Act.put, List.setIfInBounds_toArray, List.set_cons_succ, List.set_cons_zero]; go_big_quiet_on
                  cases q
                  all_goals
                    go_big_quiet_want; apply quiet_value; (· (intro w' hw; go_simp; try rfl)); simp only [Act.put, List.setIfInBounds_toArray, List.set_cons_succ, List.set_cons_zero]; go_big_quiet_on
                    refine wpQuiet_nil ?_
                    intro w5 hb5
                    have HB5 := Lib.hid hb5
                    clear hb5
                    go_wp2
                    go_roundw
                    case rel => exact ⟨y + 1, by omega, by omega, by go_num, HB5.out⟩
                    case measure => simp [intOf]; omega
                · go_wp2
                  go_roundw
                  case rel => exact ⟨x + 1, by omega, by omega, by go_num, HB.out⟩
                  case measure => simp [intOf]; omega
        · go_wp2
          go_ret
          exact ⟨rfl, BB.out.trans (HB.out.mono (by have := BB.out.size; omega))⟩
end Go.Proofs.Ytejoggbebmmlkaa
