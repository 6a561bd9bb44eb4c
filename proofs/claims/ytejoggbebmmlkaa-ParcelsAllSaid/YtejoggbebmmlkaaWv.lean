/- The document's net: Part. Conditions: its rows are the call's own. -/
import Derived.Test.YtejoggbebmmlkaaWu
namespace Go.Proofs.Ytejoggbebmmlkaa
open Go.RowKit
set_option linter.unusedVariables false
set_option linter.unusedSimpArgs false
variable {w w' : World} {base : Nat} {l a : Value} {ps : List Pk} {A : List (Int × Int)}

theorem row68 : (Try.prog.info? 68).map (fun i => (i.zero, i.size, i.bytes)) = some (some (.agg #[.int .i64 0, .int .i64 0]), 2, 16) := by kernel_rfl
theorem src2 (w : World) (q : Int × Int) : Src (w.alloc (.cells #[.int .i64 q.1, .int .i64 q.2] 68)) (some ⟨w.heap.size, 0, none⟩) 1 2 (prc q) := by
  refine ⟨rfl, by simp [prc, Value.oneCell'], .inr ⟨_, rfl, fun j u hj => ?_⟩⟩
  have hb := (Box.new w 68 #[.int .i64 q.1, .int .i64 q.2]).cell j
  rw [Addr.add_lit, Nat.zero_add, hb]
  simpa [prc] using hj
theorem ap_goes (x y : Int) (p : Pk) : apQ x y (p.1, p.2.1) = goesB x y p := by
  rw [Bool.eq_iff_iff]
  simp only [apQ, goesB, pairOf, pairOf2, Bool.or_eq_true, Bool.and_eq_true, beq_iff_eq, decide_eq_true_eq, Prod.mk.injEq]
  omega
theorem ret_box1 {fn : Func} {R : Ending → World → Prop} {act : Act} {w : World} {t : Nat} {b : Nat} {x y : Value} (h : fn.results = #[.cell t 45]) (hd : act.defers = []) (ht : act.tmps.getD t undef = .pointer (some ⟨b, 0, none⟩))
    (hb : Box w b 45 #[x, y]) (hR : R (.returned (.agg #[x, y])) w) : bodyPost Try.prog fn R .ret act w := by
  have c0 : w.cell? ⟨b, 0, none⟩ = some x := hb.cell 0
  have c1 : w.cell? ⟨b, 1, none⟩ = some y := hb.cell 1
  refine bodyPost_ret (v := .agg #[x, y]) ?_ hd hR
  rw [Array.getD_eq_getD_getElem?] at ht
  simp [results, h, ht, go_sem, c0, c1]

set_option maxRecDepth 100000 in
set_option maxHeartbeats 4000000 in
theorem rpart_any (x y : Int) (h : RNet w base l a ps A) (hb : base ≤ w.heap.size) (hl : ps.length ≤ 2000) (hA : A.length ≤ 1000) :
    Calls Try.prog 28 #[rv l a, .int .i64 x, .int .i64 y] w fun e w' => ∃ l' a', e = .returned (rv l' a') ∧ RNet w' base l' a' (ps.filter fun p => !goesB x y p) (A ++ [(x, y)]) ∧ RTo w w' l a l' a' := by
  obtain ⟨ad, c, rfl, _⟩ := own_shape h.row
  obtain ⟨aa, ca, rfl, _⟩ := own_shape h.prs
  have HR := Lib.hid h
  have HB := Lib.hid hb
  have B0 := Lib.hid (((Below.refl w.heap.size w).alloc (Nat.le_refl _) (.cells #[.slice ad ps.length c, .slice aa A.length ca] 45)).alloc (by simp) (.cells #[.slice none 0 0, .slice none 0 0] 45))
  have hX := (Box.new w 45 #[.slice ad ps.length c, .slice aa A.length ca]).alloc (.cells #[.slice none 0 0, .slice none 0 0] 45)
  have hZ := Box.new (w.alloc (.cells #[.slice ad ps.length c, .slice aa A.length ca] 45)) 45 #[.slice none 0 0, .slice none 0 0]
  simp only [World.size_alloc] at hZ
  have HX := Lib.hid hX
  have HZ := Lib.hid hZ
  unfold rv
  clear h hX hZ hb
  go_enter Try.func28, Try.ntmps28
  go_upto_region 1 with (fail)
  generalize (w.alloc (.cells #[.slice ad ps.length c, .slice aa A.length ca] 45)).alloc (.cells #[.slice none 0 0, .slice none 0 0] 45) = w1 at HX HZ B0 ⊢
  have x1 : w1.cell? ⟨w.heap.size, 1, none⟩ = some (.slice aa A.length ca) := HX.out.cell 1
  have hw1 : w.heap.size < w1.heap.size := HX.out.lt
  have hz1 : w.heap.size + 1 < w1.heap.size := HZ.out.lt
  have HO1 := Lib.hid (World.ownsRow_lit (base := w.heap.size) (e := 68) (size := 2) w1 #[] 0 B0.out.size (by decide) rfl)
  have HS1 := Lib.hid (own_src ((HR.out.below B0.out (Nat.le_refl _)).alloc (.cells #[] 68)).prs (prs_one A))
  obtain ⟨i1, hi1, hz10, hz11, hz12⟩ := info_parts row68
  have HI1 := Lib.hid hi1
  have HZZ1 := Lib.hid hz10
  have HSZ1 := Lib.hid (show w.heap.size ≤ (w1.alloc (.cells #[] 68)).heap.size by simp; omega)
  clear hi1 hz10
  go_wp2_with (at_builtin; refine wpList_append_at rfl (.tmp 11) (.tmp 13) 43 rfl w.heap.size 68 i1 _ 2 16 Try.underlying43 HI1.out HZZ1.out hz11 hz12 rfl (by decide) _ _ _ rfl HO1.out _ _ _ _ rfl HS1.out ?c2 ?c3 ?c4 ?_)
  case c2 => unfold maxLen; omega
  case c3 => omega
  case c4 => first | exact HSZ1.out | (have h0 := HSZ1.out; simpa using h0)
  intro v2 w2 own2 g2 at2
  replace own2 := (show w2.ownsRow w.heap.size 68 2 v2 A.length (prs A) by simpa using own2)
  obtain ⟨ad2, c2, rfl, hc2⟩ := own_shape own2
  have hn2 : ∀ k, k < w1.heap.size → some k ≠ (Value.slice (some ⟨w1.heap.size, 0, none⟩) 0 0).ownBlock := fun k hk e => (by have h0 : k = w1.heap.size := (by simpa [Value.ownBlock] using e); omega)
  have B2 := Lib.hid ((B0.out.alloc B0.out.size (.cells #[] 68)).grown g2 HSZ1.out (own_ge HO1.out))
  have HX2 := Lib.hid ((HX.out.alloc (.cells #[] 68)).grown g2 (hn2 _ HX.out.lt))
  have HZ2 := Lib.hid ((HZ.out.alloc (.cells #[] 68)).grown g2 (hn2 _ HZ.out.lt))
  have HO2 := Lib.hid (own2.alloc (.cells #[.int .i64 x, .int .i64 y] 68))
  have HSX := Lib.hid (src2 w2 (x, y))
  have HSZ2 := Lib.hid (show w.heap.size ≤ (w2.alloc (.cells #[.int .i64 x, .int .i64 y] 68)).heap.size by have := B2.out.size; simp; omega)
  have HOB := Lib.hid (own_base own2 (base' := w1.heap.size) (fun k hk => by
    rcases at2 with e | e
    · rw [e] at hk; have : k = w1.heap.size := by simpa [Value.ownBlock] using hk.symm
      omega
    · rw [e] at hk; have : k = w1.heap.size + 1 := by simpa [Value.ownBlock] using hk.symm
      omega))
  have hsz12 : w1.heap.size ≤ w2.heap.size := by have := g2.size; simp at this; omega
  clear own2 g2 at2 x1
  go_wp2_with (at_builtin; refine wpList_append_at rfl (.tmp 15) (.tmp 19) 43 rfl w.heap.size 68 i1 _ 2 16 Try.underlying43 HI1.out HZZ1.out hz11 hz12 rfl (by decide) _ _ _ rfl HO2.out _ _ _ _ rfl HSX.out ?c2 ?c3 ?c4 ?_)
  case c2 => unfold maxLen; omega
  case c3 => omega
  case c4 => first | exact HSZ2.out | (have h0 := HSZ2.out; simpa using h0)
  intro v4 w4 own4 g4 at4
  obtain ⟨ad4, c4, rfl, hc4⟩ := own_shape own4
  have hn4 : ∀ k, k < w1.heap.size → some k ≠ (Value.slice ad2 A.length c2).ownBlock := fun k hk e => by have := own_ge HOB.out k e.symm; omega
  have B4 := Lib.hid ((B2.out.alloc B2.out.size (.cells #[.int .i64 x, .int .i64 y] 68)).grown g4 HSZ2.out (own_ge HO2.out))
  have HX4 := Lib.hid ((HX2.out.alloc (.cells #[.int .i64 x, .int .i64 y] 68)).grown g4 (hn4 _ HX.out.lt))
  have HZ4 := Lib.hid ((HZ2.out.alloc (.cells #[.int .i64 x, .int .i64 y] 68)).grown g4 (hn4 _ HZ.out.lt))
  have HGE : Hid (∀ k, (Value.slice ad4 (A.length + 1) c4).ownBlock = some k → w1.heap.size ≤ k) := fun k hk => by
    rcases at4 with e | e
    · rw [e] at hk; exact own_ge HOB.out k hk
    · rw [e] at hk; have : k = w2.heap.size + 1 := by simpa [Value.ownBlock] using hk.symm
      omega
  have HO4 := Lib.hid own4
  have hsz24 : w2.heap.size < w4.heap.size := by have := g4.size; simp at this; omega
  have y1 : w4.cell? ⟨w.heap.size, 1, none⟩ = some (.slice aa A.length ca) := HX4.out.cell 1
  have fy := HX4.out.frozen 1
  clear at4 own4 g4 hn4
  have HX5 := Lib.hid (show Box (w4.setCell ⟨w.heap.size, 1, none⟩ (.slice ad4 (A.length + 1) c4)) w.heap.size 45 #[.slice ad ps.length c, .slice ad4 (A.length + 1) c4] from HX4.out.set 1 _)
  have HZ5 := Lib.hid (HZ4.out.set_other (p := ⟨w.heap.size, 1, none⟩) (by show w.heap.size + 1 ≠ w.heap.size; omega) (.slice ad4 (A.length + 1) c4))
  have B5 := Lib.hid (B4.out.setCell (p := ⟨w.heap.size, 1, none⟩) (Nat.le_refl _) (.slice ad4 (A.length + 1) c4))
  have HO5 := Lib.hid (own_stays (w' := w4.setCell ⟨w.heap.size, 1, none⟩ (.slice ad4 (A.length + 1) c4)) HO4.out (fun k hk => Below.heap_setCell _ _ _ _ (by have := HGE.out k hk; show k ≠ w.heap.size; omega)))
  have hsz5 : w4.heap.size ≤ (w4.setCell ⟨w.heap.size, 1, none⟩ (.slice ad4 (A.length + 1) c4)).heap.size := by simp [World.setCell]
  go_wp2
  generalize w4.setCell ⟨w.heap.size, 1, none⟩ (.slice ad4 (A.length + 1) c4) = w5 at HX5 HZ5 B5 HO5 hsz5 ⊢
  clear y1 fy
  go_loopw [8, 9] (fun lv i wr => ∃ t : Nat, t ≤ ps.length ∧ i = .int .i64 t ∧ wr.ownsRow w5.heap.size 27 3 lv ((ps.take t).filter fun p => !goesB x y p).length (cellsOf ((ps.take t).filter fun p => !goesB x y p)) ∧ Below w5.heap.size w5 wr) (fun _ i _ => ps.length - (intOf i).toNat)
  case atStart => exact ⟨0, Nat.zero_le _, rfl, World.ownsRow_nil _ _ _ _, Below.refl _ _⟩
  case round =>
    obtain ⟨t, ht, rfl, hO, hbel⟩ := hrel
    obtain ⟨kept, hkept⟩ : ∃ kept, kept = (ps.take t).filter fun p => !goesB x y p := ⟨_, rfl⟩
    rw [← hkept] at hO
    have hkl : kept.length ≤ 2000 := by rw [hkept]; exact Nat.le_trans (List.length_filter_le _ _) (by rw [List.length_take]; omega)
    have HKE := Lib.hid hkept
    have HO := Lib.hid hO
    have HBL := Lib.hid hbel
    have HXr := Lib.hid (HX5.out.below hbel HX5.out.lt)
    have x0 : wr.cell? ⟨w.heap.size, 0, none⟩ = some (.slice ad ps.length c) := HXr.out.cell 0
    obtain ⟨lad, lc, rfl, _⟩ := own_shape HO.out
    clear hO hbel hkept
    by_cases hlt : t < ps.length
    · obtain ⟨p, hp⟩ : ∃ p, ps[t]? = some p := ⟨_, List.getElem?_eq_getElem hlt⟩
      have HE := Lib.hid (kept_snoc (fun p => !goesB x y p) ps t p hp)
      obtain ⟨g, cap, he, hg, d0, d1, d2⟩ := own_cells (HR.out.below (B5.out.trans (HBL.out.mono B5.out.size)) (Nat.le_refl _)).row t p hp
      obtain ⟨rfl, rfl⟩ : ad = some ⟨g, 0, none⟩ ∧ c = cap := by simpa using he
      obtain ⟨r, hr⟩ : ∃ r, goesB x y p = r := ⟨_, rfl⟩
      have hap : ((p.1 == x && p.2.1 == y) || (p.1 == y && p.2.1 == x)) = r := by rw [← hr, ← ap_goes]; rfl
      have HRR := Lib.hid hr
      have HOA := Lib.hid ((HO.out.alloc (.cells #[.int .i64 p.1, .int .i64 p.2.1, .string p.2.2] 27)).alloc (.cells #[.int .i64 p.1, .int .i64 p.2.1, .string p.2.2] 27))
      have hsx := src3 (wr.alloc (.cells #[.int .i64 p.1, .int .i64 p.2.1, .string p.2.2] 27)) p
      simp only [World.size_alloc] at hsx
      have HSX3 := Lib.hid hsx
      obtain ⟨i0, hi, hz0, hz1', hz2⟩ := info_parts row27
      have hz : i0.zero = some zeroPk := hz0
      have HI := Lib.hid hi
      have HZZ := Lib.hid hz
      have HSZ := Lib.hid (show w5.heap.size ≤ ((wr.alloc (.cells #[.int .i64 p.1, .int .i64 p.2.1, .string p.2.2] 27)).alloc (.cells #[.int .i64 p.1, .int .i64 p.2.1, .string p.2.2] 27)).heap.size by have := HBL.out.size; simp; omega)
      clear hp he hr hsx hz0 hi hz
      cases h1 : (p.1 == x)
      · cases h3 : (p.1 == y)
        · obtain rfl : r = false := by rw [← hap, h1, h3]; rfl
          clear hap
          (go_wp2_with (at_builtin; refine wpList_append_at rfl (.tmp 58) (.tmp 60) 22 rfl w5.heap.size 27 i0 zeroPk 3 32 Try.underlying22 HI.out HZZ.out hz1' hz2 rfl (by decide) _ _ _ rfl HOA.out _ _ _ _ rfl HSX3.out (by unfold maxLen; omega) (by omega) HSZ.out ?_; intro v6 w6 own6 g6 at6; obtain ⟨ad6, c6, rfl, hc6⟩ := own_shape own6); go_roundw; (case rel => (refine ⟨t + 1, by omega, by go_num, ?_, ((HBL.out.alloc HBL.out.size _).alloc (by have := HBL.out.size; simp; omega) _).grown g6 HSZ.out (own_ge HO.out)⟩; have h9 := HE.out; rw [HRR.out] at h9; rw [h9, ← HKE.out]; show World.ownsRow _ _ _ _ _ (kept ++ [p]).length (cellsOf (kept ++ [p])); rw [cells_snoc, List.length_append]; exact own6)); (case measure => simp [intOf]; omega))
        · cases h4 : (p.2.1 == x)
          · obtain rfl : r = false := by rw [← hap, h1, h3, h4]; rfl
            clear hap
            (go_wp2_with (at_builtin; refine wpList_append_at rfl (.tmp 58) (.tmp 60) 22 rfl w5.heap.size 27 i0 zeroPk 3 32 Try.underlying22 HI.out HZZ.out hz1' hz2 rfl (by decide) _ _ _ rfl HOA.out _ _ _ _ rfl HSX3.out (by unfold maxLen; omega) (by omega) HSZ.out ?_; intro v6 w6 own6 g6 at6; obtain ⟨ad6, c6, rfl, hc6⟩ := own_shape own6); go_roundw; (case rel => (refine ⟨t + 1, by omega, by go_num, ?_, ((HBL.out.alloc HBL.out.size _).alloc (by have := HBL.out.size; simp; omega) _).grown g6 HSZ.out (own_ge HO.out)⟩; have h9 := HE.out; rw [HRR.out] at h9; rw [h9, ← HKE.out]; show World.ownsRow _ _ _ _ _ (kept ++ [p]).length (cellsOf (kept ++ [p])); rw [cells_snoc, List.length_append]; exact own6)); (case measure => simp [intOf]; omega))
          · obtain rfl : r = true := by rw [← hap, h1, h3, h4]; rfl
            clear hap
            (go_wp2; go_roundw; (case rel => (refine ⟨t + 1, by omega, by go_num, ?_, HBL.out.alloc HBL.out.size _⟩; have h9 := HE.out; rw [HRR.out] at h9; rw [h9, ← HKE.out]; show World.ownsRow _ _ _ _ _ (kept ++ []).length (cellsOf (kept ++ [])); rw [List.append_nil]; exact HO.out.alloc _)); (case measure => simp [intOf]; omega))
      · cases h2 : (p.2.1 == y)
        · cases h3 : (p.1 == y)
          · obtain rfl : r = false := by rw [← hap, h1, h2, h3]; rfl
            clear hap
            (go_wp2_with (at_builtin; refine wpList_append_at rfl (.tmp 58) (.tmp 60) 22 rfl w5.heap.size 27 i0 zeroPk 3 32 Try.underlying22 HI.out HZZ.out hz1' hz2 rfl (by decide) _ _ _ rfl HOA.out _ _ _ _ rfl HSX3.out (by unfold maxLen; omega) (by omega) HSZ.out ?_; intro v6 w6 own6 g6 at6; obtain ⟨ad6, c6, rfl, hc6⟩ := own_shape own6); go_roundw; (case rel => (refine ⟨t + 1, by omega, by go_num, ?_, ((HBL.out.alloc HBL.out.size _).alloc (by have := HBL.out.size; simp; omega) _).grown g6 HSZ.out (own_ge HO.out)⟩; have h9 := HE.out; rw [HRR.out] at h9; rw [h9, ← HKE.out]; show World.ownsRow _ _ _ _ _ (kept ++ [p]).length (cellsOf (kept ++ [p])); rw [cells_snoc, List.length_append]; exact own6)); (case measure => simp [intOf]; omega))
          · cases h4 : (p.2.1 == x)
            · obtain rfl : r = false := by rw [← hap, h1, h2, h3, h4]; rfl
              clear hap
              (go_wp2_with (at_builtin; refine wpList_append_at rfl (.tmp 58) (.tmp 60) 22 rfl w5.heap.size 27 i0 zeroPk 3 32 Try.underlying22 HI.out HZZ.out hz1' hz2 rfl (by decide) _ _ _ rfl HOA.out _ _ _ _ rfl HSX3.out (by unfold maxLen; omega) (by omega) HSZ.out ?_; intro v6 w6 own6 g6 at6; obtain ⟨ad6, c6, rfl, hc6⟩ := own_shape own6); go_roundw; (case rel => (refine ⟨t + 1, by omega, by go_num, ?_, ((HBL.out.alloc HBL.out.size _).alloc (by have := HBL.out.size; simp; omega) _).grown g6 HSZ.out (own_ge HO.out)⟩; have h9 := HE.out; rw [HRR.out] at h9; rw [h9, ← HKE.out]; show World.ownsRow _ _ _ _ _ (kept ++ [p]).length (cellsOf (kept ++ [p])); rw [cells_snoc, List.length_append]; exact own6)); (case measure => simp [intOf]; omega))
            · obtain rfl : r = true := by rw [← hap, h1, h2, h3, h4]; rfl
              clear hap
              (go_wp2; go_roundw; (case rel => (refine ⟨t + 1, by omega, by go_num, ?_, HBL.out.alloc HBL.out.size _⟩; have h9 := HE.out; rw [HRR.out] at h9; rw [h9, ← HKE.out]; show World.ownsRow _ _ _ _ _ (kept ++ []).length (cellsOf (kept ++ [])); rw [List.append_nil]; exact HO.out.alloc _)); (case measure => simp [intOf]; omega))
        · obtain rfl : r = true := by rw [← hap, h1, h2]; rfl
          clear hap
          (go_wp2; go_roundw; (case rel => (refine ⟨t + 1, by omega, by go_num, ?_, HBL.out.alloc HBL.out.size _⟩; have h9 := HE.out; rw [HRR.out] at h9; rw [h9, ← HKE.out]; show World.ownsRow _ _ _ _ _ (kept ++ []).length (cellsOf (kept ++ [])); rw [List.append_nil]; exact HO.out.alloc _)); (case measure => simp [intOf]; omega))
    · have hfin : kept = ps.filter fun p => !goesB x y p := by have := HKE.out; rwa [List.take_of_length_le (by omega)] at this
      have HF := Lib.hid hfin
      have fx := HXr.out.frozen 0
      have x1 : wr.cell? ⟨w.heap.size, 1, none⟩ = some (.slice ad4 (A.length + 1) c4) := HXr.out.cell 1
      have HZr := Lib.hid (HZ5.out.below HBL.out HZ5.out.lt)
      have z0 : wr.cell? ⟨w.heap.size + 1, 0, none⟩ = some (.slice none 0 0) := HZr.out.cell 0
      have z1 : wr.cell? ⟨w.heap.size + 1, 1, none⟩ = some (.slice none 0 0) := HZr.out.cell 1
      have f0 := HZr.out.frozen 0
      have f1 := HZr.out.frozen 1
      have BF := Lib.hid (((B5.out.trans (HBL.out.mono B5.out.size)).setCell (p := ⟨w.heap.size, 0, none⟩) (Nat.le_refl _) (.slice lad kept.length lc)).setCell (p := ⟨w.heap.size + 1, 0, none⟩) (by show w.heap.size ≤ w.heap.size + 1; omega) (.slice lad kept.length lc) |>.setCell (p := ⟨w.heap.size + 1, 1, none⟩) (by show w.heap.size ≤ w.heap.size + 1; omega) (.slice ad4 (A.length + 1) c4))
      clear hfin
      go_wp2
      refine ret_box1 Try.results28 rfl rfl (((HZr.out.set_other (p := ⟨w.heap.size, 0, none⟩) (by show w.heap.size + 1 ≠ w.heap.size; omega) _).set 0 _).set 1 _) ⟨_, _, rfl, ⟨?_, ?_⟩, ⟨BF.out, fun k hk => .inr ?_, fun k hk => .inr ?_⟩⟩
      · rw [← HF.out]
        refine own_base (base := w5.heap.size) (own_stays HO.out (fun k hk => ?_)) (fun k hk => ?_)
        · have h1 := own_ge HO.out k hk
          exact (Below.heap_setCell _ _ _ _ (by show k ≠ w.heap.size + 1; omega)).trans ((Below.heap_setCell _ _ _ _ (by show k ≠ w.heap.size + 1; omega)).trans (Below.heap_setCell _ _ _ _ (by show k ≠ w.heap.size; omega)))
        · have h1 := own_ge HO.out k hk
          have h2 := HB.out
          omega
      · rw [prs_snoc, List.length_append]
        refine own_base (base := w.heap.size) (own_stays (own_stays HO5.out (fun k hk => HBL.out.block k (own_lt HO5.out k hk))) (fun k hk => ?_)) (fun k hk => ?_)
        · have h1 := HGE.out k hk
          exact (Below.heap_setCell _ _ _ _ (by show k ≠ w.heap.size + 1; omega)).trans ((Below.heap_setCell _ _ _ _ (by show k ≠ w.heap.size + 1; omega)).trans (Below.heap_setCell _ _ _ _ (by show k ≠ w.heap.size; omega)))
        · have h1 := HGE.out k hk
          have h2 := HB.out
          omega
      · have h1 := own_ge HO.out k hk
        omega
      · have h1 := HGE.out k hk
        omega
end Go.Proofs.Ytejoggbebmmlkaa
