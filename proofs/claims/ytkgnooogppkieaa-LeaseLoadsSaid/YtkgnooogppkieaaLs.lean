/- The document's leases: with. Conditions: the row's cells are seen. -/
import Derived.Test.YtkgnooogppkieaaLr
namespace Go.Proofs.Ytkgnooogppkieaa
open Go.RowKit
set_option linter.unusedVariables false
set_option linter.unusedSimpArgs false
variable {w w' : World} {base : Nat} {L : List Lz}

set_option maxRecDepth 100000 in
set_option maxHeartbeats 4000000 in
theorem rwith_any {bad : Nat → Prop} (ad : Option Addr) (c : Nat) (x : Lz) (h : Sees w bad ad L) (hl : L.length ≤ 1000) :
    Calls Try.prog 48 #[.slice ad L.length c, tv x] w fun e w' => ∃ v', e = .returned v' ∧ w'.ownsRow w.heap.size 46 3 v' (withL L x).length (cellsOf (withL L x)) ∧ Below w.heap.size w w' := by
  have HO := Lib.hid (h.below ((Below.refl w.heap.size w).alloc (Nat.le_refl _) (.cells #[.int .i64 x.1, .int .i64 x.2.1, .int .i64 x.2.2] 46)))
  have HLT := Lib.hid (show ∀ g off, ad = some ⟨g, off, none⟩ → L ≠ [] → g < w.heap.size from fun g off e h0 => by
    rcases h with h | ⟨g', off', e', h1, _⟩
    · exact absurd h h0
    · rw [e] at e'; injection e' with e'; injection e' with e1; omega)
  have HX0 := Lib.hid (Box.new w 46 #[.int .i64 x.1, .int .i64 x.2.1, .int .i64 x.2.2])
  have B0 := Lib.hid ((Below.refl w.heap.size w).alloc (Nat.le_refl _) (.cells #[.int .i64 x.1, .int .i64 x.2.1, .int .i64 x.2.2] 46))
  have S0 := Lib.hid (show (w.alloc (.cells #[.int .i64 x.1, .int .i64 x.2.1, .int .i64 x.2.2] 46)).heap.size = w.heap.size + 1 by simp)
  obtain ⟨i0, hi, hz0, hz1, hz2⟩ := info_parts row46
  have HI := Lib.hid hi
  have HZZ := Lib.hid hz0
  unfold tv
  clear h hi hz0
  go_enter Try.func48, Try.ntmps48
  go_wp2
  generalize w.alloc (.cells #[.int .i64 x.1, .int .i64 x.2.1, .int .i64 x.2.2] 46) = w1 at HO HX0 B0 S0 ⊢
  go_loopw [5, 6, 7] (fun lv dv i wr => ∃ k : Nat, k ≤ L.length ∧ i = .int .i64 k ∧ dv = .bool (withS L x k).2 ∧ wr.ownsRow (w.heap.size + 1) 46 3 lv (withS L x k).1.length (cellsOf (withS L x k).1) ∧ Below w.heap.size w wr ∧ Box wr w.heap.size 46 #[.int .i64 x.1, .int .i64 x.2.1, .int .i64 x.2.2]) (fun _ _ i _ => L.length - (intOf i).toNat)
  case atStart => exact ⟨0, Nat.zero_le _, rfl, rfl, World.ownsRow_nil _ _ _ _, B0.out, HX0.out⟩
  case round =>
    obtain ⟨k, hk, rfl, rfl, hR, hbel, hx⟩ := hrel
    obtain ⟨o, ho⟩ : ∃ o, o = (withS L x k).1 := ⟨_, rfl⟩
    obtain ⟨d, hd⟩ : ∃ d, d = (withS L x k).2 := ⟨_, rfl⟩
    have hlen : o.length ≤ 2000 := by have := withS_len L x k; rw [ho]; omega
    rw [← ho] at hR
    rw [← hd]
    have HR := Lib.hid hR
    have HB := Lib.hid hbel
    have HX := Lib.hid hx
    have x0 : wr.cell? ⟨w.heap.size, 0, none⟩ = some (.int .i64 x.1) := hx.cell 0
    have x1 : wr.cell? ⟨w.heap.size, 1, none⟩ = some (.int .i64 x.2.1) := hx.cell 1
    have x2 : wr.cell? ⟨w.heap.size, 2, none⟩ = some (.int .i64 x.2.2) := hx.cell 2
    obtain ⟨lad, lc, rfl, _⟩ := own_shape hR
    clear hR hbel hx
    by_cases hlt : k < L.length
    · obtain ⟨p, hp⟩ : ∃ p, L[k]? = some p := ⟨_, List.getElem?_eq_getElem hlt⟩
      have HE := Lib.hid (show withS L x (k + 1) = wStep x (o, d) p by rw [withS_next hp, ho, hd])
      obtain ⟨g, off, rfl, hg0, _, d0, d1, d2⟩ := HO.out.get k p hp
      have hgw : g < w.heap.size := HLT.out g off rfl (by rintro rfl; simp at hp)
      have hg : g < wr.heap.size := Nat.lt_of_lt_of_le hgw HB.out.size
      have HG : Hid (¬ w.heap.size + 1 ≤ g) := by show ¬ _; omega
      have hq0 : ∀ j, wr.cell? ⟨g, j, none⟩ = w1.cell? ⟨g, j, none⟩ := fun j => World.cell?_of_block (a := ⟨g, j, none⟩) ((HB.out.block g hgw).trans (B0.out.block g hgw).symm)
      rw [← hq0] at d0 d1 d2
      clear hp ho hd hq0 hg0
      cases d
      · -- not yet
        by_cases hge : x.1 ≤ p.1
        · have hgd : decide (x.1 ≤ p.1) = true := by simp [hge]
          have hs1 : wStep x (o, false) p = (if p.1 = x.1 then (o ++ [x], true) else (o ++ [x] ++ [p], true)) := by unfold wStep; rw [if_pos ⟨rfl, hge⟩]
          rw [hs1] at HE
          clear hs1
          go_wp2
          go_quiet (fail)
          have HRv1 := Lib.hid (own_stays (w' := wr.drewN nq) HR.out (fun _ _ => rfl))
          have HBv1 := Lib.hid (Below.drewN HB.out nq)
          have HXv1 := Lib.hid (HX.out.drewN nq)
          have HDv1 : Hid ((wr.drewN nq).cell? ⟨g, off + k * 3, none⟩ = some (.int .i64 p.1) ∧ (wr.drewN nq).cell? ⟨g, off + k * 3 + 1, none⟩ = some (.int .i64 p.2.1) ∧ (wr.drewN nq).cell? ⟨g, off + k * 3 + 2, none⟩ = some (.int .i64 p.2.2) ∧ g < (wr.drewN nq).heap.size) := ⟨d0, d1, d2, hg⟩
          clear d0 d1 d2 x0 x1 x2 hg
          generalize wr.drewN nq = v1 at HRv1 HBv1 HXv1 HDv1 ⊢
          obtain ⟨d0, d1, d2, hg⟩ := HDv1.out
          have x0 : v1.cell? ⟨w.heap.size, 0, none⟩ = some (.int .i64 x.1) := HXv1.out.cell 0
          have x1 : v1.cell? ⟨w.heap.size, 1, none⟩ = some (.int .i64 x.2.1) := HXv1.out.cell 1
          have x2 : v1.cell? ⟨w.heap.size, 2, none⟩ = some (.int .i64 x.2.2) := HXv1.out.cell 2
          have HRA := Lib.hid (HRv1.out.alloc (.cells #[.int .i64 x.1, .int .i64 x.2.1, .int .i64 x.2.2] 46))
          have HSX := Lib.hid (src46 v1 x)
          have HSZ := Lib.hid (show w.heap.size + 1 ≤ (v1.alloc (.cells #[.int .i64 x.1, .int .i64 x.2.1, .int .i64 x.2.2] 46)).heap.size by have := HXv1.out.lt; simp; omega)
          go_wp2_with (at_builtin; refine wpList_append_at rfl (.tmp 26) (.tmp 28) 31 rfl (w.heap.size + 1) 46 i0 _ 3 24 Try.underlying31 HI.out HZZ.out hz1 hz2 rfl (by decide) _ _ _ rfl HRA.out _ _ _ _ rfl HSX.out (by unfold maxLen; omega) (by omega) HSZ.out ?_; intro v5 w5 own5 g5 at5; obtain ⟨ad5, c5, rfl, hc5⟩ := own_shape own5)
          have hge5 := own_ge HRv1.out
          have HDw5 : Hid (w5.cell? ⟨g, off + k * 3, none⟩ = some (.int .i64 p.1) ∧ w5.cell? ⟨g, off + k * 3 + 1, none⟩ = some (.int .i64 p.2.1) ∧ w5.cell? ⟨g, off + k * 3 + 2, none⟩ = some (.int .i64 p.2.2) ∧ g < w5.heap.size) := by
            have hq : ∀ j, w5.cell? ⟨g, j, none⟩ = v1.cell? ⟨g, j, none⟩ := fun j => World.cell?_of_block (a := ⟨g, j, none⟩) ((g5.block g (Nat.lt_trans hg (by simp)) (fun e => HG.out (hge5 g e.symm))).trans (Below.heap_alloc v1 _ g hg))
            exact ⟨by rw [hq]; exact d0, by rw [hq]; exact d1, by rw [hq]; exact d2, Nat.lt_of_lt_of_le hg (Nat.le_trans (by simp) g5.size)⟩
          have HRw5 := Lib.hid own5
          have HBw5 := Lib.hid ((HBv1.out.alloc HBv1.out.size (.cells #[.int .i64 x.1, .int .i64 x.2.1, .int .i64 x.2.2] 46)).grown g5 (Nat.le_trans (Nat.le_succ _) HSZ.out) (fun k hk => Nat.le_trans (Nat.le_succ _) (hge5 k hk)))
          have HXw5 := Lib.hid ((HXv1.out.alloc (.cells #[.int .i64 x.1, .int .i64 x.2.1, .int .i64 x.2.2] 46)).grown g5 (fun e => by have := hge5 _ e.symm; omega))
          clear own5 at5 g5 hge5 HRA HSX HSZ
          clear d0 d1 d2 x0 x1 x2 hg
          obtain ⟨d0, d1, d2, hg⟩ := HDw5.out
          have x0 : w5.cell? ⟨w.heap.size, 0, none⟩ = some (.int .i64 x.1) := HXw5.out.cell 0
          have x1 : w5.cell? ⟨w.heap.size, 1, none⟩ = some (.int .i64 x.2.1) := HXw5.out.cell 1
          have x2 : w5.cell? ⟨w.heap.size, 2, none⟩ = some (.int .i64 x.2.2) := HXw5.out.cell 2
          by_cases hpx : p.1 = x.1
          · have hne : (p.1 != x.1) = false := by simp [hpx]
            rw [if_pos hpx] at HE
            clear hpx
            go_wp2
            go_quiet (fail)
            have HRv2 := Lib.hid (own_stays (w' := w5.drewN nq) HRw5.out (fun _ _ => rfl))
            have HBv2 := Lib.hid (Below.drewN HBw5.out nq)
            have HXv2 := Lib.hid (HXw5.out.drewN nq)
            have HDv2 : Hid ((w5.drewN nq).cell? ⟨g, off + k * 3, none⟩ = some (.int .i64 p.1) ∧ (w5.drewN nq).cell? ⟨g, off + k * 3 + 1, none⟩ = some (.int .i64 p.2.1) ∧ (w5.drewN nq).cell? ⟨g, off + k * 3 + 2, none⟩ = some (.int .i64 p.2.2) ∧ g < (w5.drewN nq).heap.size) := ⟨d0, d1, d2, hg⟩
            clear d0 d1 d2 x0 x1 x2 hg
            generalize w5.drewN nq = v2 at HRv2 HBv2 HXv2 HDv2 ⊢
            obtain ⟨d0, d1, d2, hg⟩ := HDv2.out
            have x0 : v2.cell? ⟨w.heap.size, 0, none⟩ = some (.int .i64 x.1) := HXv2.out.cell 0
            have x1 : v2.cell? ⟨w.heap.size, 1, none⟩ = some (.int .i64 x.2.1) := HXv2.out.cell 1
            have x2 : v2.cell? ⟨w.heap.size, 2, none⟩ = some (.int .i64 x.2.2) := HXv2.out.cell 2
            go_wp2
            go_roundw
            case rel =>
              refine ⟨k + 1, by omega, by go_num, by rw [HE.out], ?_, HBv2.out, HXv2.out⟩
              rw [HE.out]
              show World.ownsRow _ _ _ _ _ (o ++ [x]).length (cellsOf (o ++ [x]))
              rw [cells_snoc, List.length_append]; exact HRv2.out
            case measure => simp [intOf]; omega
          · have hne : (p.1 != x.1) = true := by simp [hpx]
            rw [if_neg hpx] at HE
            clear hpx
            go_wp2
            go_quiet (fail)
            have HRv2 := Lib.hid (own_stays (w' := w5.drewN nq) HRw5.out (fun _ _ => rfl))
            have HBv2 := Lib.hid (Below.drewN HBw5.out nq)
            have HXv2 := Lib.hid (HXw5.out.drewN nq)
            have HDv2 : Hid ((w5.drewN nq).cell? ⟨g, off + k * 3, none⟩ = some (.int .i64 p.1) ∧ (w5.drewN nq).cell? ⟨g, off + k * 3 + 1, none⟩ = some (.int .i64 p.2.1) ∧ (w5.drewN nq).cell? ⟨g, off + k * 3 + 2, none⟩ = some (.int .i64 p.2.2) ∧ g < (w5.drewN nq).heap.size) := ⟨d0, d1, d2, hg⟩
            clear d0 d1 d2 x0 x1 x2 hg
            generalize w5.drewN nq = v2 at HRv2 HBv2 HXv2 HDv2 ⊢
            obtain ⟨d0, d1, d2, hg⟩ := HDv2.out
            have x0 : v2.cell? ⟨w.heap.size, 0, none⟩ = some (.int .i64 x.1) := HXv2.out.cell 0
            have x1 : v2.cell? ⟨w.heap.size, 1, none⟩ = some (.int .i64 x.2.1) := HXv2.out.cell 1
            have x2 : v2.cell? ⟨w.heap.size, 2, none⟩ = some (.int .i64 x.2.2) := HXv2.out.cell 2
            have HRA := Lib.hid (HRv2.out.alloc (.cells #[.int .i64 p.1, .int .i64 p.2.1, .int .i64 p.2.2] 46))
            have HSX := Lib.hid (src46 v2 p)
            have HSZ := Lib.hid (show w.heap.size + 1 ≤ (v2.alloc (.cells #[.int .i64 p.1, .int .i64 p.2.1, .int .i64 p.2.2] 46)).heap.size by have := HXv2.out.lt; simp; omega)
            go_wp2_with (at_builtin; refine wpList_append_at rfl (.tmp 38) (.tmp 43) 31 rfl (w.heap.size + 1) 46 i0 _ 3 24 Try.underlying31 HI.out HZZ.out hz1 hz2 rfl (by decide) _ _ _ rfl HRA.out _ _ _ _ rfl HSX.out (by unfold maxLen; omega) (by omega) HSZ.out ?_; intro v6 w6 own6 g6 at6; obtain ⟨ad6, c6, rfl, hc6⟩ := own_shape own6)
            have hge6 := own_ge HRv2.out
            have HRw6 := Lib.hid own6
            have HBw6 := Lib.hid ((HBv2.out.alloc HBv2.out.size (.cells #[.int .i64 p.1, .int .i64 p.2.1, .int .i64 p.2.2] 46)).grown g6 (Nat.le_trans (Nat.le_succ _) HSZ.out) (fun k hk => Nat.le_trans (Nat.le_succ _) (hge6 k hk)))
            have HXw6 := Lib.hid ((HXv2.out.alloc (.cells #[.int .i64 p.1, .int .i64 p.2.1, .int .i64 p.2.2] 46)).grown g6 (fun e => by have := hge6 _ e.symm; omega))
            clear own6 at6 g6 hge6 HRA HSX HSZ
            go_roundw
            case rel =>
              refine ⟨k + 1, by omega, by go_num, by rw [HE.out], ?_, HBw6.out, HXw6.out⟩
              rw [HE.out]
              show World.ownsRow _ _ _ _ _ (o ++ [x] ++ [p]).length (cellsOf (o ++ [x] ++ [p]))
              rw [cells_snoc, cells_snoc, List.length_append, List.length_append]; exact HRw6.out
            case measure => simp [intOf]; omega
        · have hgd : decide (x.1 ≤ p.1) = false := by simp; omega
          have hlt1 : p.1 < x.1 := by omega
          have hne : (p.1 != x.1) = true := by simp; omega
          have hs1 : wStep x (o, false) p = (o ++ [p], false) := by unfold wStep; rw [if_neg (by simp; omega), if_neg (by omega)]
          rw [hs1] at HE
          clear hs1
          go_wp2
          go_quiet (fail)
          have HRv1 := Lib.hid (own_stays (w' := wr.drewN nq) HR.out (fun _ _ => rfl))
          have HBv1 := Lib.hid (Below.drewN HB.out nq)
          have HXv1 := Lib.hid (HX.out.drewN nq)
          have HDv1 : Hid ((wr.drewN nq).cell? ⟨g, off + k * 3, none⟩ = some (.int .i64 p.1) ∧ (wr.drewN nq).cell? ⟨g, off + k * 3 + 1, none⟩ = some (.int .i64 p.2.1) ∧ (wr.drewN nq).cell? ⟨g, off + k * 3 + 2, none⟩ = some (.int .i64 p.2.2) ∧ g < (wr.drewN nq).heap.size) := ⟨d0, d1, d2, hg⟩
          clear d0 d1 d2 x0 x1 x2 hg
          generalize wr.drewN nq = v1 at HRv1 HBv1 HXv1 HDv1 ⊢
          obtain ⟨d0, d1, d2, hg⟩ := HDv1.out
          have x0 : v1.cell? ⟨w.heap.size, 0, none⟩ = some (.int .i64 x.1) := HXv1.out.cell 0
          have x1 : v1.cell? ⟨w.heap.size, 1, none⟩ = some (.int .i64 x.2.1) := HXv1.out.cell 1
          have x2 : v1.cell? ⟨w.heap.size, 2, none⟩ = some (.int .i64 x.2.2) := HXv1.out.cell 2
          go_wp2
          go_quiet (fail)
          have HRv2 := Lib.hid (own_stays (w' := v1.drewN nq) HRv1.out (fun _ _ => rfl))
          have HBv2 := Lib.hid (Below.drewN HBv1.out nq)
          have HXv2 := Lib.hid (HXv1.out.drewN nq)
          have HDv2 : Hid ((v1.drewN nq).cell? ⟨g, off + k * 3, none⟩ = some (.int .i64 p.1) ∧ (v1.drewN nq).cell? ⟨g, off + k * 3 + 1, none⟩ = some (.int .i64 p.2.1) ∧ (v1.drewN nq).cell? ⟨g, off + k * 3 + 2, none⟩ = some (.int .i64 p.2.2) ∧ g < (v1.drewN nq).heap.size) := ⟨d0, d1, d2, hg⟩
          clear d0 d1 d2 x0 x1 x2 hg
          generalize v1.drewN nq = v2 at HRv2 HBv2 HXv2 HDv2 ⊢
          obtain ⟨d0, d1, d2, hg⟩ := HDv2.out
          have x0 : v2.cell? ⟨w.heap.size, 0, none⟩ = some (.int .i64 x.1) := HXv2.out.cell 0
          have x1 : v2.cell? ⟨w.heap.size, 1, none⟩ = some (.int .i64 x.2.1) := HXv2.out.cell 1
          have x2 : v2.cell? ⟨w.heap.size, 2, none⟩ = some (.int .i64 x.2.2) := HXv2.out.cell 2
          have HRA := Lib.hid (HRv2.out.alloc (.cells #[.int .i64 p.1, .int .i64 p.2.1, .int .i64 p.2.2] 46))
          have HSX := Lib.hid (src46 v2 p)
          have HSZ := Lib.hid (show w.heap.size + 1 ≤ (v2.alloc (.cells #[.int .i64 p.1, .int .i64 p.2.1, .int .i64 p.2.2] 46)).heap.size by have := HXv2.out.lt; simp; omega)
          go_wp2_with (at_builtin; refine wpList_append_at rfl (.tmp 38) (.tmp 43) 31 rfl (w.heap.size + 1) 46 i0 _ 3 24 Try.underlying31 HI.out HZZ.out hz1 hz2 rfl (by decide) _ _ _ rfl HRA.out _ _ _ _ rfl HSX.out (by unfold maxLen; omega) (by omega) HSZ.out ?_; intro v6 w6 own6 g6 at6; obtain ⟨ad6, c6, rfl, hc6⟩ := own_shape own6)
          have hge6 := own_ge HRv2.out
          have HRw6 := Lib.hid own6
          have HBw6 := Lib.hid ((HBv2.out.alloc HBv2.out.size (.cells #[.int .i64 p.1, .int .i64 p.2.1, .int .i64 p.2.2] 46)).grown g6 (Nat.le_trans (Nat.le_succ _) HSZ.out) (fun k hk => Nat.le_trans (Nat.le_succ _) (hge6 k hk)))
          have HXw6 := Lib.hid ((HXv2.out.alloc (.cells #[.int .i64 p.1, .int .i64 p.2.1, .int .i64 p.2.2] 46)).grown g6 (fun e => by have := hge6 _ e.symm; omega))
          clear own6 at6 g6 hge6 HRA HSX HSZ
          go_roundw
          case rel =>
            refine ⟨k + 1, by omega, by go_num, by rw [HE.out], ?_, HBw6.out, HXw6.out⟩
            rw [HE.out]
            show World.ownsRow _ _ _ _ _ (o ++ [p]).length (cellsOf (o ++ [p]))
            rw [cells_snoc, List.length_append]; exact HRw6.out
          case measure => simp [intOf]; omega
      · -- done
        have hs1 : wStep x (o, true) p = (if p.1 = x.1 then (o, true) else (o ++ [p], true)) := by unfold wStep; rw [if_neg (by simp)]
        rw [hs1] at HE
        clear hs1
        by_cases hpx : p.1 = x.1
        · have hne : (p.1 != x.1) = false := by simp [hpx]
          rw [if_pos hpx] at HE
          clear hpx
          go_wp2
          go_quiet (fail)
          have HRv1 := Lib.hid (own_stays (w' := wr.drewN nq) HR.out (fun _ _ => rfl))
          have HBv1 := Lib.hid (Below.drewN HB.out nq)
          have HXv1 := Lib.hid (HX.out.drewN nq)
          have HDv1 : Hid ((wr.drewN nq).cell? ⟨g, off + k * 3, none⟩ = some (.int .i64 p.1) ∧ (wr.drewN nq).cell? ⟨g, off + k * 3 + 1, none⟩ = some (.int .i64 p.2.1) ∧ (wr.drewN nq).cell? ⟨g, off + k * 3 + 2, none⟩ = some (.int .i64 p.2.2) ∧ g < (wr.drewN nq).heap.size) := ⟨d0, d1, d2, hg⟩
          clear d0 d1 d2 x0 x1 x2 hg
          generalize wr.drewN nq = v1 at HRv1 HBv1 HXv1 HDv1 ⊢
          obtain ⟨d0, d1, d2, hg⟩ := HDv1.out
          have x0 : v1.cell? ⟨w.heap.size, 0, none⟩ = some (.int .i64 x.1) := HXv1.out.cell 0
          have x1 : v1.cell? ⟨w.heap.size, 1, none⟩ = some (.int .i64 x.2.1) := HXv1.out.cell 1
          have x2 : v1.cell? ⟨w.heap.size, 2, none⟩ = some (.int .i64 x.2.2) := HXv1.out.cell 2
          go_wp2
          go_quiet (fail)
          have HRv2 := Lib.hid (own_stays (w' := v1.drewN nq) HRv1.out (fun _ _ => rfl))
          have HBv2 := Lib.hid (Below.drewN HBv1.out nq)
          have HXv2 := Lib.hid (HXv1.out.drewN nq)
          have HDv2 : Hid ((v1.drewN nq).cell? ⟨g, off + k * 3, none⟩ = some (.int .i64 p.1) ∧ (v1.drewN nq).cell? ⟨g, off + k * 3 + 1, none⟩ = some (.int .i64 p.2.1) ∧ (v1.drewN nq).cell? ⟨g, off + k * 3 + 2, none⟩ = some (.int .i64 p.2.2) ∧ g < (v1.drewN nq).heap.size) := ⟨d0, d1, d2, hg⟩
          clear d0 d1 d2 x0 x1 x2 hg
          generalize v1.drewN nq = v2 at HRv2 HBv2 HXv2 HDv2 ⊢
          obtain ⟨d0, d1, d2, hg⟩ := HDv2.out
          have x0 : v2.cell? ⟨w.heap.size, 0, none⟩ = some (.int .i64 x.1) := HXv2.out.cell 0
          have x1 : v2.cell? ⟨w.heap.size, 1, none⟩ = some (.int .i64 x.2.1) := HXv2.out.cell 1
          have x2 : v2.cell? ⟨w.heap.size, 2, none⟩ = some (.int .i64 x.2.2) := HXv2.out.cell 2
          go_wp2
          go_roundw
          case rel =>
            refine ⟨k + 1, by omega, by go_num, by rw [HE.out], ?_, HBv2.out, HXv2.out⟩
            rw [HE.out]
            show World.ownsRow _ _ _ _ _ (o).length (cellsOf (o))
            exact HRv2.out
          case measure => simp [intOf]; omega
        · have hne : (p.1 != x.1) = true := by simp [hpx]
          rw [if_neg hpx] at HE
          clear hpx
          go_wp2
          go_quiet (fail)
          have HRv1 := Lib.hid (own_stays (w' := wr.drewN nq) HR.out (fun _ _ => rfl))
          have HBv1 := Lib.hid (Below.drewN HB.out nq)
          have HXv1 := Lib.hid (HX.out.drewN nq)
          have HDv1 : Hid ((wr.drewN nq).cell? ⟨g, off + k * 3, none⟩ = some (.int .i64 p.1) ∧ (wr.drewN nq).cell? ⟨g, off + k * 3 + 1, none⟩ = some (.int .i64 p.2.1) ∧ (wr.drewN nq).cell? ⟨g, off + k * 3 + 2, none⟩ = some (.int .i64 p.2.2) ∧ g < (wr.drewN nq).heap.size) := ⟨d0, d1, d2, hg⟩
          clear d0 d1 d2 x0 x1 x2 hg
          generalize wr.drewN nq = v1 at HRv1 HBv1 HXv1 HDv1 ⊢
          obtain ⟨d0, d1, d2, hg⟩ := HDv1.out
          have x0 : v1.cell? ⟨w.heap.size, 0, none⟩ = some (.int .i64 x.1) := HXv1.out.cell 0
          have x1 : v1.cell? ⟨w.heap.size, 1, none⟩ = some (.int .i64 x.2.1) := HXv1.out.cell 1
          have x2 : v1.cell? ⟨w.heap.size, 2, none⟩ = some (.int .i64 x.2.2) := HXv1.out.cell 2
          go_wp2
          go_quiet (fail)
          have HRv2 := Lib.hid (own_stays (w' := v1.drewN nq) HRv1.out (fun _ _ => rfl))
          have HBv2 := Lib.hid (Below.drewN HBv1.out nq)
          have HXv2 := Lib.hid (HXv1.out.drewN nq)
          have HDv2 : Hid ((v1.drewN nq).cell? ⟨g, off + k * 3, none⟩ = some (.int .i64 p.1) ∧ (v1.drewN nq).cell? ⟨g, off + k * 3 + 1, none⟩ = some (.int .i64 p.2.1) ∧ (v1.drewN nq).cell? ⟨g, off + k * 3 + 2, none⟩ = some (.int .i64 p.2.2) ∧ g < (v1.drewN nq).heap.size) := ⟨d0, d1, d2, hg⟩
          clear d0 d1 d2 x0 x1 x2 hg
          generalize v1.drewN nq = v2 at HRv2 HBv2 HXv2 HDv2 ⊢
          obtain ⟨d0, d1, d2, hg⟩ := HDv2.out
          have x0 : v2.cell? ⟨w.heap.size, 0, none⟩ = some (.int .i64 x.1) := HXv2.out.cell 0
          have x1 : v2.cell? ⟨w.heap.size, 1, none⟩ = some (.int .i64 x.2.1) := HXv2.out.cell 1
          have x2 : v2.cell? ⟨w.heap.size, 2, none⟩ = some (.int .i64 x.2.2) := HXv2.out.cell 2
          have HRA := Lib.hid (HRv2.out.alloc (.cells #[.int .i64 p.1, .int .i64 p.2.1, .int .i64 p.2.2] 46))
          have HSX := Lib.hid (src46 v2 p)
          have HSZ := Lib.hid (show w.heap.size + 1 ≤ (v2.alloc (.cells #[.int .i64 p.1, .int .i64 p.2.1, .int .i64 p.2.2] 46)).heap.size by have := HXv2.out.lt; simp; omega)
          go_wp2_with (at_builtin; refine wpList_append_at rfl (.tmp 38) (.tmp 43) 31 rfl (w.heap.size + 1) 46 i0 _ 3 24 Try.underlying31 HI.out HZZ.out hz1 hz2 rfl (by decide) _ _ _ rfl HRA.out _ _ _ _ rfl HSX.out (by unfold maxLen; omega) (by omega) HSZ.out ?_; intro v6 w6 own6 g6 at6; obtain ⟨ad6, c6, rfl, hc6⟩ := own_shape own6)
          have hge6 := own_ge HRv2.out
          have HRw6 := Lib.hid own6
          have HBw6 := Lib.hid ((HBv2.out.alloc HBv2.out.size (.cells #[.int .i64 p.1, .int .i64 p.2.1, .int .i64 p.2.2] 46)).grown g6 (Nat.le_trans (Nat.le_succ _) HSZ.out) (fun k hk => Nat.le_trans (Nat.le_succ _) (hge6 k hk)))
          have HXw6 := Lib.hid ((HXv2.out.alloc (.cells #[.int .i64 p.1, .int .i64 p.2.1, .int .i64 p.2.2] 46)).grown g6 (fun e => by have := hge6 _ e.symm; omega))
          clear own6 at6 g6 hge6 HRA HSX HSZ
          go_roundw
          case rel =>
            refine ⟨k + 1, by omega, by go_num, by rw [HE.out], ?_, HBw6.out, HXw6.out⟩
            rw [HE.out]
            show World.ownsRow _ _ _ _ _ (o ++ [p]).length (cellsOf (o ++ [p]))
            rw [cells_snoc, List.length_append]; exact HRw6.out
          case measure => simp [intOf]; omega
    · obtain rfl : k = L.length := by omega
      have HW : Hid (withL L x = if d then o else o ++ [x]) := by show withL L x = _; unfold withL; rw [← hd, ← ho]
      clear ho hd
      cases d
      · simp only [Bool.false_eq_true, if_false] at HW
        have HRA := Lib.hid (HR.out.alloc (.cells #[.int .i64 x.1, .int .i64 x.2.1, .int .i64 x.2.2] 46))
        have HSX := Lib.hid (src46 wr x)
        have HSZ := Lib.hid (show w.heap.size + 1 ≤ (wr.alloc (.cells #[.int .i64 x.1, .int .i64 x.2.1, .int .i64 x.2.2] 46)).heap.size by have := HX.out.lt; simp; omega)
        go_wp2_with (at_builtin; refine wpList_append_at rfl (.tmp 47) (.tmp 49) 31 rfl (w.heap.size + 1) 46 i0 _ 3 24 Try.underlying31 HI.out HZZ.out hz1 hz2 rfl (by decide) _ _ _ rfl HRA.out _ _ _ _ rfl HSX.out (by unfold maxLen; omega) (by omega) HSZ.out ?_; intro v6 w6 own6 g6 at6; obtain ⟨ad6, c6, rfl, hc6⟩ := own_shape own6)
        have hge6 := own_ge HR.out
        have HRw6 := Lib.hid own6
        have HBw6 := Lib.hid ((HB.out.alloc HB.out.size (.cells #[.int .i64 x.1, .int .i64 x.2.1, .int .i64 x.2.2] 46)).grown g6 (Nat.le_trans (Nat.le_succ _) HSZ.out) (fun k hk => Nat.le_trans (Nat.le_succ _) (hge6 k hk)))
        have HXw6 := Lib.hid ((HX.out.alloc (.cells #[.int .i64 x.1, .int .i64 x.2.1, .int .i64 x.2.2] 46)).grown g6 (fun e => by have := hge6 _ e.symm; omega))
        clear own6 at6 g6 hge6 HRA HSX HSZ
        go_ret
        refine ⟨_, rfl, ?_, HBw6.out⟩
        rw [HW.out, cells_snoc, List.length_append]
        exact own_base HRw6.out (fun k hk => by have := own_ge HRw6.out k hk; omega)
      · simp only [if_true] at HW
        go_wp2
        go_ret
        refine ⟨_, rfl, ?_, HB.out⟩
        rw [HW.out]
        exact own_base HR.out (fun k hk => by have := own_ge HR.out k hk; omega)
end Go.Proofs.Ytkgnooogppkieaa
