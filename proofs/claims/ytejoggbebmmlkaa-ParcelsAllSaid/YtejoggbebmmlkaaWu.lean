/- The document's net: Take. Conditions: its rows are the call's own. -/
import Derived.Test.YtejoggbebmmlkaaWt
import Derived.Test.YtejoggbebmmlkaaPhase
namespace Go.Proofs.Ytejoggbebmmlkaa
open Go.RowKit
set_option linter.unusedVariables false
set_option linter.unusedSimpArgs false
variable {w w' : World} {base : Nat} {l a : Value} {ps : List Pk} {A : List (Int × Int)}

theorem ret_box3 {fn : Func} {R : Ending → World → Prop} {act : Act} {w : World} {t t2 u : Nat} {b b2 : Nat} {x y x2 y2 z2 q : Value} (h : fn.results = #[.cell t 45, .cell t2 27, .tmp u]) (hd : act.defers = []) (ht : act.tmps.getD t undef = .pointer (some ⟨b, 0, none⟩)) (ht2 : act.tmps.getD t2 undef = .pointer (some ⟨b2, 0, none⟩)) (hu : act.tmps.getD u undef = q)
    (hb : Box w b 45 #[x, y]) (hb2 : Box w b2 27 #[x2, y2, z2]) (hR : R (.returned (.tuple #[.agg #[x, y], .agg #[x2, y2, z2], q])) w) : bodyPost Try.prog fn R .ret act w := by
  have c0 : w.cell? ⟨b, 0, none⟩ = some x := hb.cell 0
  have c1 : w.cell? ⟨b, 1, none⟩ = some y := hb.cell 1
  have d0 : w.cell? ⟨b2, 0, none⟩ = some x2 := hb2.cell 0
  have d1 : w.cell? ⟨b2, 1, none⟩ = some y2 := hb2.cell 1
  have d2 : w.cell? ⟨b2, 2, none⟩ = some z2 := hb2.cell 2
  refine bodyPost_ret (v := .tuple #[.agg #[x, y], .agg #[x2, y2, z2], q]) ?_ hd hR
  rw [Array.getD_eq_getD_getElem?] at ht ht2 hu
  simp [results, h, ht, ht2, hu, go_sem, c0, c1, d0, d1, d2]

theorem erase_next (ps : List Pk) (j t : Nat) (p : Pk) (h : ps[t]? = some p) (hne : t ≠ j) : (ps.take (t + 1)).eraseIdx j = (ps.take t).eraseIdx j ++ [p] := by
  have hlt := (List.getElem?_eq_some_iff.1 h).1
  rw [List.take_add_one, h]
  rcases Nat.lt_or_ge j t with h1 | h1
  · rw [List.eraseIdx_append_of_lt_length (by rw [List.length_take]; omega)]; rfl
  · rw [List.eraseIdx_of_length_le (by rw [List.length_append, List.length_take]; simp; omega), List.eraseIdx_of_length_le (by rw [List.length_take]; omega)]; rfl
theorem erase_at (ps : List Pk) (j : Nat) (h : j < ps.length) : (ps.take (j + 1)).eraseIdx j = (ps.take j).eraseIdx j := by
  rw [List.take_add_one, List.getElem?_eq_getElem h, List.eraseIdx_of_length_le (l := ps.take j) (by rw [List.length_take]; omega)]
  have hl : (ps.take j).length = j := by rw [List.length_take]; omega
  rw [List.eraseIdx_append_of_length_le (by omega), hl, Nat.sub_self]
  simp

set_option maxRecDepth 100000 in
set_option maxHeartbeats 2000000 in
theorem rtake_all (k : Int) (h : RNet w base l a ps A) (hb : base ≤ w.heap.size) (hl : ps.length ≤ 2000) :
    Calls Try.prog 26 #[rv l a, .int .i64 k] w fun e w' => ∃ l', e = .returned (.tuple #[rv l' a, pv ((getI ps k).getD zp), .bool (getI ps k).isSome]) ∧ RNet w' base l' a (eraseI ps k) A ∧ RTo w w' l a l' a := by
  obtain ⟨ad, c, rfl, _⟩ := own_shape h.row
  obtain ⟨aa, ca, rfl, _⟩ := own_shape h.prs
  have HR := Lib.hid h
  have B0 := Lib.hid ((((Below.refl w.heap.size w).alloc (Nat.le_refl _) (.cells #[.slice ad ps.length c, .slice aa A.length ca] 45)).alloc (by simp) (.cells #[.slice none 0 0, .slice none 0 0] 45)).alloc (by simp; omega) (.cells #[.int .i64 0, .int .i64 0, .string ⟨#[]⟩] 27))
  have hX := ((Box.new w 45 #[.slice ad ps.length c, .slice aa A.length ca]).alloc (.cells #[.slice none 0 0, .slice none 0 0] 45)).alloc (.cells #[.int .i64 0, .int .i64 0, .string ⟨#[]⟩] 27)
  have hZ := (Box.new (w.alloc (.cells #[.slice ad ps.length c, .slice aa A.length ca] 45)) 45 #[.slice none 0 0, .slice none 0 0]).alloc (.cells #[.int .i64 0, .int .i64 0, .string ⟨#[]⟩] 27)
  have hY := Box.new ((w.alloc (.cells #[.slice ad ps.length c, .slice aa A.length ca] 45)).alloc (.cells #[.slice none 0 0, .slice none 0 0] 45)) 27 #[.int .i64 0, .int .i64 0, .string ⟨#[]⟩]
  simp only [World.size_alloc] at hZ hY
  have HX := Lib.hid hX
  have HZ := Lib.hid hZ
  have HY := Lib.hid hY
  have HB := Lib.hid hb
  have HG0 := Lib.hid (show getI ps k = getI ps k from rfl)
  obtain ⟨gi, hgi⟩ : ∃ gi, getI ps k = gi := ⟨_, rfl⟩
  obtain ⟨p, hp⟩ : ∃ p, gi.getD zp = p := ⟨_, rfl⟩
  have HGI := Lib.hid hgi
  have HPP := Lib.hid hp
  unfold rv
  clear h hX hZ hY hgi hp hb
  go_enter Try.func26, Try.ntmps26
  go_wp2_with fail
  generalize ((w.alloc (.cells #[.slice ad ps.length c, .slice aa A.length ca] 45)).alloc (.cells #[.slice none 0 0, .slice none 0 0] 45)).alloc (.cells #[.int .i64 0, .int .i64 0, .string ⟨#[]⟩] 27) = w0 at HX HZ HY B0 ⊢
  have CA := Lib.hid (rat_all k (HR.out.below B0.out (Nat.le_refl _)) (by omega))
  unfold rv at CA
  rw [HGI.out, HPP.out] at CA
  unfold pv at CA
  refine CA.out.mono ?_
  rintro e w5 ⟨rfl, b5⟩
  have B1 := Lib.hid ((B0.out.trans (b5.mono B0.out.size)).alloc (B0.out.trans (b5.mono B0.out.size)).size (.cells #[.int .i64 p.1, .int .i64 p.2.1, .string p.2.2] 27))
  have HX1 := Lib.hid ((HX.out.below b5 HX.out.lt).alloc (.cells #[.int .i64 p.1, .int .i64 p.2.1, .string p.2.2] 27))
  have HZ1 := Lib.hid ((HZ.out.below b5 HZ.out.lt).alloc (.cells #[.int .i64 p.1, .int .i64 p.2.1, .string p.2.2] 27))
  have HY1 := Lib.hid ((HY.out.below b5 HY.out.lt).alloc (.cells #[.int .i64 p.1, .int .i64 p.2.1, .string p.2.2] 27))
  have HP1 := Lib.hid (Box.new w5 27 #[.int .i64 p.1, .int .i64 p.2.1, .string p.2.2])
  have hne5 : w.heap.size + 1 + 1 < w5.heap.size := (HY.out.below b5 HY.out.lt).lt
  clear b5 CA
  cases gi with
  | none =>
    go_upto_region 3 with (fail)
    generalize w5.alloc (.cells #[.int .i64 p.1, .int .i64 p.2.1, .string p.2.2] 27) = w1 at HX1 HZ1 HY1 HP1 B1 ⊢
    obtain ⟨pb, hpb⟩ : ∃ pb, pb = w5.heap.size := ⟨_, rfl⟩
    rw [← hpb] at HP1 hne5 ⊢
    clear hpb
    refine wp_region_phase (fun w' => Box w' w.heap.size 45 #[.slice ad ps.length c, .slice aa A.length ca] ∧ Box w' pb 27 #[.int .i64 p.1, .int .i64 p.2.1, .string p.2.2]) [true, true, false, false, false] 4 _ _ _ (by kernel_rfl) rfl rfl (by kernel_rfl) rfl rfl (fun _ _ _ _ _ h => h) (⟨HX1.out.drew, HP1.out.drew⟩) ?_
    intro S HS
    simp only [taken, leftOut]
    go_big_quiet_want; apply quiet_value; (· (intro w' hw; have c0 := ((HS.out _).1 hw).1.cell 0; have c1 := ((HS.out _).1 hw).1.cell 1; go_simp; try rfl)); simp only [Act.put, List.setIfInBounds_toArray, List.set_cons_succ, List.set_cons_zero]; go_big_quiet_on
    go_big_quiet_want; apply quiet_value; (· (intro w' hw; have c0 := ((HS.out _).1 hw).2.cell 0; have c1 := ((HS.out _).1 hw).2.cell 1; have c2 := ((HS.out _).1 hw).2.cell 2; go_simp; try rfl)); simp only [Act.put, List.setIfInBounds_toArray, List.set_cons_succ, List.set_cons_zero]; go_big_quiet_on
    refine wpQuiet_nil ?_
    have sz0 : w1.cell? ⟨w.heap.size + 1, 0, none⟩ = some (.slice none 0 0) := HZ1.out.cell 0
    have fz0 := HZ1.out.frozen 0
    have sz1 : w1.cell? ⟨w.heap.size + 1, 1, none⟩ = some (.slice none 0 0) := HZ1.out.cell 1
    have fz1 := HZ1.out.frozen 1
    have sy0 : w1.cell? ⟨w.heap.size + 1 + 1, 0, none⟩ = some (.int .i64 0) := HY1.out.cell 0
    have fy0 := HY1.out.frozen 0
    have sy1 : w1.cell? ⟨w.heap.size + 1 + 1, 1, none⟩ = some (.int .i64 0) := HY1.out.cell 1
    have fy1 := HY1.out.frozen 1
    have sy2 : w1.cell? ⟨w.heap.size + 1 + 1, 2, none⟩ = some (.string ⟨#[]⟩) := HY1.out.cell 2
    have fy2 := HY1.out.frozen 2
    have hpy : w.heap.size + 1 + 1 < pb := hne5
    refine wpTail_more ?_
    go_wp2_with fail
    refine ThenS.mk ((HS.out _).2 ⟨(((HX1.out).set_other (p := ⟨w.heap.size + 1, 0, none⟩) (by show w.heap.size ≠ w.heap.size + 1; omega) _).set_other (p := ⟨w.heap.size + 1, 1, none⟩) (by show w.heap.size ≠ w.heap.size + 1; omega) _).drew, (((HP1.out).set_other (p := ⟨w.heap.size + 1, 0, none⟩) (by show pb ≠ w.heap.size + 1; omega) _).set_other (p := ⟨w.heap.size + 1, 1, none⟩) (by show pb ≠ w.heap.size + 1; omega) _).drew⟩) ?_
    refine wpTail_more ?_
    go_wp2_with fail
    refine ThenS.mk ((HS.out _).2 ⟨((((((HX1.out).set_other (p := ⟨w.heap.size + 1, 0, none⟩) (by show w.heap.size ≠ w.heap.size + 1; omega) _).set_other (p := ⟨w.heap.size + 1, 1, none⟩) (by show w.heap.size ≠ w.heap.size + 1; omega) _).set_other (p := ⟨w.heap.size + 1 + 1, 0, none⟩) (by show w.heap.size ≠ w.heap.size + 1 + 1; omega) _).set_other (p := ⟨w.heap.size + 1 + 1, 1, none⟩) (by show w.heap.size ≠ w.heap.size + 1 + 1; omega) _).set_other (p := ⟨w.heap.size + 1 + 1, 2, none⟩) (by show w.heap.size ≠ w.heap.size + 1 + 1; omega) _).drew, ((((((HP1.out).set_other (p := ⟨w.heap.size + 1, 0, none⟩) (by show pb ≠ w.heap.size + 1; omega) _).set_other (p := ⟨w.heap.size + 1, 1, none⟩) (by show pb ≠ w.heap.size + 1; omega) _).set_other (p := ⟨w.heap.size + 1 + 1, 0, none⟩) (by show pb ≠ w.heap.size + 1 + 1; omega) _).set_other (p := ⟨w.heap.size + 1 + 1, 1, none⟩) (by show pb ≠ w.heap.size + 1 + 1; omega) _).set_other (p := ⟨w.heap.size + 1 + 1, 2, none⟩) (by show pb ≠ w.heap.size + 1 + 1; omega) _).drew⟩) ?_
    refine wpTail_last ?_
    go_wp2
    refine ret_box3 Try.results26 rfl rfl rfl rfl ((((((HZ1.out.set 0 _).set 1 _).set_other (p := ⟨w.heap.size + 1 + 1, 0, none⟩) (by show w.heap.size + 1 ≠ w.heap.size + 1 + 1; omega) _).set_other (p := ⟨w.heap.size + 1 + 1, 1, none⟩) (by show w.heap.size + 1 ≠ w.heap.size + 1 + 1; omega) _).set_other (p := ⟨w.heap.size + 1 + 1, 2, none⟩) (by show w.heap.size + 1 ≠ w.heap.size + 1 + 1; omega) _).drew) (((((((HY1.out).set_other (p := ⟨w.heap.size + 1, 0, none⟩) (by show w.heap.size + 1 + 1 ≠ w.heap.size + 1; omega) _).set_other (p := ⟨w.heap.size + 1, 1, none⟩) (by show w.heap.size + 1 + 1 ≠ w.heap.size + 1; omega) _).set 0 _).set 1 _).set 2 _).drew) ⟨_, by rw [HGI.out, HPP.out]; rfl, ?_, RTo.same (((((((B1.out).setCell (by show w.heap.size ≤ w.heap.size + 1; omega) _).setCell (by show w.heap.size ≤ w.heap.size + 1; omega) _).setCell (by show w.heap.size ≤ w.heap.size + 1 + 1; omega) _).setCell (by show w.heap.size ≤ w.heap.size + 1 + 1; omega) _).setCell (by show w.heap.size ≤ w.heap.size + 1 + 1; omega) _).drew)⟩
    rw [eraseI, HGI.out]
    exact HR.out.below (((((((B1.out).setCell (by show w.heap.size ≤ w.heap.size + 1; omega) _).setCell (by show w.heap.size ≤ w.heap.size + 1; omega) _).setCell (by show w.heap.size ≤ w.heap.size + 1 + 1; omega) _).setCell (by show w.heap.size ≤ w.heap.size + 1 + 1; omega) _).setCell (by show w.heap.size ≤ w.heap.size + 1 + 1; omega) _).drew) (Nat.le_refl _)
  | some q =>
    obtain rfl : q = p := HPP.out
    obtain ⟨j, rfl, hj⟩ := getI_some HGI.out
    have hjl := (List.getElem?_eq_some_iff.1 hj).1
    have HJ := Lib.hid hj
    clear hj
    go_wp2
    generalize w5.alloc (.cells #[.int .i64 q.1, .int .i64 q.2.1, .string q.2.2] 27) = w1 at HX1 HZ1 HY1 HP1 B1 ⊢
    obtain ⟨pb, hpb⟩ : ∃ pb, pb = w5.heap.size := ⟨_, rfl⟩
    rw [← hpb] at HP1 hne5 ⊢
    clear hpb
    go_loopw [9, 10] (fun lv i wr => ∃ t : Nat, t ≤ ps.length ∧ i = .int .i64 t ∧ wr.ownsRow w1.heap.size 27 3 lv ((ps.take t).eraseIdx j).length (cellsOf ((ps.take t).eraseIdx j)) ∧ Below w1.heap.size w1 wr) (fun _ i _ => ps.length - (intOf i).toNat)
    case atStart => exact ⟨0, Nat.zero_le _, rfl, World.ownsRow_nil _ _ _ _, Below.refl _ _⟩
    case round =>
      obtain ⟨t, ht, rfl, hO, hbel⟩ := hrel
      have HO := Lib.hid hO
      have HBL := Lib.hid hbel
      have HXr := Lib.hid (HX1.out.below hbel HX1.out.lt)
      have x0 : wr.cell? ⟨w.heap.size, 0, none⟩ = some (.slice ad ps.length c) := HXr.out.cell 0
      have x1 : wr.cell? ⟨w.heap.size, 1, none⟩ = some (.slice aa A.length ca) := HXr.out.cell 1
      clear hO hbel
      by_cases hlt : t < ps.length
      · by_cases hne : t = j
        · have hq : ((t : Int) != (j : Int)) = false := by simp [hne]
          have HE := Lib.hid (show (ps.take (t + 1)).eraseIdx j = (ps.take t).eraseIdx j by rw [hne]; exact erase_at ps j hjl)
          clear hne
          go_wp2
          go_roundw
          case rel => exact ⟨t + 1, by omega, by go_num, by rw [HE.out]; exact HO.out, HBL.out⟩
          case measure => simp [intOf]; omega
        · have hq : ((t : Int) != (j : Int)) = true := by simp; omega
          obtain ⟨p2, hp2⟩ : ∃ p2, ps[t]? = some p2 := ⟨_, List.getElem?_eq_getElem hlt⟩
          have HE := Lib.hid (erase_next ps j t p2 hp2 hne)
          obtain ⟨g, cap, he, hg, d0, d1, d2⟩ := own_cells (HR.out.below (B1.out.trans (HBL.out.mono B1.out.size)) (Nat.le_refl _)).row t p2 hp2
          obtain ⟨rfl, rfl⟩ : ad = some ⟨g, 0, none⟩ ∧ c = cap := by simpa using he
          obtain ⟨lad, lc, rfl, _⟩ := own_shape HO.out
          obtain ⟨i0, hi, hz0, hz1, hz2⟩ := info_parts row27
          have hz : i0.zero = some zeroPk := hz0
          have HI := Lib.hid hi
          have HZZ := Lib.hid hz
          have HOA := Lib.hid (HO.out.alloc (.cells #[.int .i64 p2.1, .int .i64 p2.2.1, .string p2.2.2] 27))
          have HSX := Lib.hid (src3 wr p2)
          have hll : ((ps.take t).eraseIdx j).length ≤ ps.length := Nat.le_trans (List.length_eraseIdx_le _ _) (by rw [List.length_take]; omega)
          have HLL := Lib.hid hll
          have HSZ := Lib.hid (show w1.heap.size ≤ (wr.alloc (.cells #[.int .i64 p2.1, .int .i64 p2.2.1, .string p2.2.2] 27)).heap.size by have := HBL.out.size; simp; omega)
          clear hne hp2 he hz0 hi hz hll
          go_wp2_with (at_builtin; refine wpList_append_at rfl (.tmp 31) (.tmp 37) 22 rfl w1.heap.size 27 i0 zeroPk 3 32 Try.underlying22 HI.out HZZ.out hz1 hz2 rfl (by decide) _ _ _ rfl HOA.out _ _ _ _ rfl HSX.out (by have := HLL.out; unfold maxLen; omega) (by have := HLL.out; omega) HSZ.out ?_; intro v4 w4 own4 g4 at4; obtain ⟨ad4, c4, rfl, hc4⟩ := own_shape own4)
          go_roundw
          case rel =>
            refine ⟨t + 1, by omega, by go_num, ?_, (HBL.out.alloc HBL.out.size _).grown g4 HSZ.out (own_ge HO.out)⟩
            rw [HE.out, cells_snoc, List.length_append]
            exact own4
          case measure => simp [intOf]; omega
      · have hfin : (ps.take t).eraseIdx j = ps.eraseIdx j := by rw [List.take_of_length_le (by omega)]
        have HF := Lib.hid hfin
        obtain ⟨lad, lc, rfl, _⟩ := own_shape HO.out
        have fx := HXr.out.frozen 0
        have HB1r := Lib.hid (B1.out.trans (HBL.out.mono B1.out.size))
        have HZr := Lib.hid (HZ1.out.below HBL.out HZ1.out.lt)
        have HYr := Lib.hid (HY1.out.below HBL.out HY1.out.lt)
        have HPr := Lib.hid (HP1.out.below HBL.out HP1.out.lt)
        have hpl := HP1.out.lt
        have HXs := Lib.hid (show Box (wr.setCell ⟨w.heap.size, 0, none⟩ (.slice lad ((ps.take t).eraseIdx j).length lc)) w.heap.size 45 #[.slice lad ((ps.take t).eraseIdx j).length lc, .slice aa A.length ca] from HXr.out.set 0 _)
        have HZs := Lib.hid (HZr.out.set_other (p := ⟨w.heap.size, 0, none⟩) (by simp) (.slice lad ((ps.take t).eraseIdx j).length lc))
        have HYs := Lib.hid (HYr.out.set_other (p := ⟨w.heap.size, 0, none⟩) (by show w.heap.size + 1 + 1 ≠ w.heap.size; omega) (.slice lad ((ps.take t).eraseIdx j).length lc))
        have HPs := Lib.hid (HPr.out.set_other (p := ⟨w.heap.size, 0, none⟩) (by show pb ≠ w.heap.size; omega) (.slice lad ((ps.take t).eraseIdx j).length lc))
        have HB1s := Lib.hid (HB1r.out.setCell (p := ⟨w.heap.size, 0, none⟩) (Nat.le_refl _) (.slice lad ((ps.take t).eraseIdx j).length lc))
        have HOs := Lib.hid (own_stays (w' := wr.setCell ⟨w.heap.size, 0, none⟩ (.slice lad ((ps.take t).eraseIdx j).length lc)) HO.out (fun k hk => Below.heap_setCell _ _ _ _ (by have := own_ge HO.out k hk; have := HX1.out.lt; show k ≠ w.heap.size; omega)))
        clear hfin
        go_upto_region 11 with (fail)
        generalize hw2 : wr.setCell ⟨w.heap.size, 0, none⟩ (.slice lad ((ps.take t).eraseIdx j).length lc) = w2 at HXs HZs HYs HPs HB1s HOs ⊢
        clear hw2
        refine wp_region_phase (fun w' => Box w' w.heap.size 45 #[.slice lad ((ps.take t).eraseIdx j).length lc, .slice aa A.length ca] ∧ Box w' pb 27 #[.int .i64 q.1, .int .i64 q.2.1, .string q.2.2]) [true, true, false, false, false] 4 _ _ _ (by kernel_rfl) rfl rfl (by kernel_rfl) rfl rfl (fun _ _ _ _ _ h => h) (⟨HXs.out.drew, HPs.out.drew⟩) ?_
        intro S HS
        simp only [taken, leftOut]
        go_big_quiet_want; apply quiet_value; (· (intro w' hw; have c0 := ((HS.out _).1 hw).1.cell 0; have c1 := ((HS.out _).1 hw).1.cell 1; go_simp; try rfl)); simp only [Act.put, List.setIfInBounds_toArray, List.set_cons_succ, List.set_cons_zero]; go_big_quiet_on
        go_big_quiet_want; apply quiet_value; (· (intro w' hw; have c0 := ((HS.out _).1 hw).2.cell 0; have c1 := ((HS.out _).1 hw).2.cell 1; have c2 := ((HS.out _).1 hw).2.cell 2; go_simp; try rfl)); simp only [Act.put, List.setIfInBounds_toArray, List.set_cons_succ, List.set_cons_zero]; go_big_quiet_on
        refine wpQuiet_nil ?_
        have sz0 : w2.cell? ⟨w.heap.size + 1, 0, none⟩ = some (.slice none 0 0) := HZs.out.cell 0
        have fz0 := HZs.out.frozen 0
        have sz1 : w2.cell? ⟨w.heap.size + 1, 1, none⟩ = some (.slice none 0 0) := HZs.out.cell 1
        have fz1 := HZs.out.frozen 1
        have sy0 : w2.cell? ⟨w.heap.size + 1 + 1, 0, none⟩ = some (.int .i64 0) := HYs.out.cell 0
        have fy0 := HYs.out.frozen 0
        have sy1 : w2.cell? ⟨w.heap.size + 1 + 1, 1, none⟩ = some (.int .i64 0) := HYs.out.cell 1
        have fy1 := HYs.out.frozen 1
        have sy2 : w2.cell? ⟨w.heap.size + 1 + 1, 2, none⟩ = some (.string ⟨#[]⟩) := HYs.out.cell 2
        have fy2 := HYs.out.frozen 2
        have hpy : w.heap.size + 1 + 1 < pb := hne5
        refine wpTail_more ?_
        go_wp2_with fail
        refine ThenS.mk ((HS.out _).2 ⟨(((HXs.out).set_other (p := ⟨w.heap.size + 1, 0, none⟩) (by show w.heap.size ≠ w.heap.size + 1; omega) _).set_other (p := ⟨w.heap.size + 1, 1, none⟩) (by show w.heap.size ≠ w.heap.size + 1; omega) _).drew, (((HPs.out).set_other (p := ⟨w.heap.size + 1, 0, none⟩) (by show pb ≠ w.heap.size + 1; omega) _).set_other (p := ⟨w.heap.size + 1, 1, none⟩) (by show pb ≠ w.heap.size + 1; omega) _).drew⟩) ?_
        refine wpTail_more ?_
        go_wp2_with fail
        refine ThenS.mk ((HS.out _).2 ⟨((((((HXs.out).set_other (p := ⟨w.heap.size + 1, 0, none⟩) (by show w.heap.size ≠ w.heap.size + 1; omega) _).set_other (p := ⟨w.heap.size + 1, 1, none⟩) (by show w.heap.size ≠ w.heap.size + 1; omega) _).set_other (p := ⟨w.heap.size + 1 + 1, 0, none⟩) (by show w.heap.size ≠ w.heap.size + 1 + 1; omega) _).set_other (p := ⟨w.heap.size + 1 + 1, 1, none⟩) (by show w.heap.size ≠ w.heap.size + 1 + 1; omega) _).set_other (p := ⟨w.heap.size + 1 + 1, 2, none⟩) (by show w.heap.size ≠ w.heap.size + 1 + 1; omega) _).drew, ((((((HPs.out).set_other (p := ⟨w.heap.size + 1, 0, none⟩) (by show pb ≠ w.heap.size + 1; omega) _).set_other (p := ⟨w.heap.size + 1, 1, none⟩) (by show pb ≠ w.heap.size + 1; omega) _).set_other (p := ⟨w.heap.size + 1 + 1, 0, none⟩) (by show pb ≠ w.heap.size + 1 + 1; omega) _).set_other (p := ⟨w.heap.size + 1 + 1, 1, none⟩) (by show pb ≠ w.heap.size + 1 + 1; omega) _).set_other (p := ⟨w.heap.size + 1 + 1, 2, none⟩) (by show pb ≠ w.heap.size + 1 + 1; omega) _).drew⟩) ?_
        refine wpTail_last ?_
        go_wp2
        refine ret_box3 Try.results26 rfl rfl rfl rfl ((((((HZs.out.set 0 _).set 1 _).set_other (p := ⟨w.heap.size + 1 + 1, 0, none⟩) (by show w.heap.size + 1 ≠ w.heap.size + 1 + 1; omega) _).set_other (p := ⟨w.heap.size + 1 + 1, 1, none⟩) (by show w.heap.size + 1 ≠ w.heap.size + 1 + 1; omega) _).set_other (p := ⟨w.heap.size + 1 + 1, 2, none⟩) (by show w.heap.size + 1 ≠ w.heap.size + 1 + 1; omega) _).drew) (((((((HYs.out).set_other (p := ⟨w.heap.size + 1, 0, none⟩) (by show w.heap.size + 1 + 1 ≠ w.heap.size + 1; omega) _).set_other (p := ⟨w.heap.size + 1, 1, none⟩) (by show w.heap.size + 1 + 1 ≠ w.heap.size + 1; omega) _).set 0 _).set 1 _).set 2 _).drew) ⟨_, by rw [HGI.out]; rfl, ⟨?_, (HR.out.below (((((((HB1s.out).setCell (by show w.heap.size ≤ w.heap.size + 1; omega) _).setCell (by show w.heap.size ≤ w.heap.size + 1; omega) _).setCell (by show w.heap.size ≤ w.heap.size + 1 + 1; omega) _).setCell (by show w.heap.size ≤ w.heap.size + 1 + 1; omega) _).setCell (by show w.heap.size ≤ w.heap.size + 1 + 1; omega) _).drew) (Nat.le_refl _)).prs⟩, ⟨((((((HB1s.out).setCell (by show w.heap.size ≤ w.heap.size + 1; omega) _).setCell (by show w.heap.size ≤ w.heap.size + 1; omega) _).setCell (by show w.heap.size ≤ w.heap.size + 1 + 1; omega) _).setCell (by show w.heap.size ≤ w.heap.size + 1 + 1; omega) _).setCell (by show w.heap.size ≤ w.heap.size + 1 + 1; omega) _).drew, fun k hk => .inr ?_, fun k hk => .inl hk⟩⟩
        · rw [eraseI, HGI.out]
          have he : (ps.take t).eraseIdx j = ps.eraseIdx (j : Int).toNat := by rw [HF.out]; rfl
          show World.ownsRow _ _ _ _ _ (ps.eraseIdx (j : Int).toNat).length (cellsOf (ps.eraseIdx (j : Int).toNat))
          rw [← he]
          refine own_base (base := w1.heap.size) (own_stays HOs.out (fun k hk => (Below.heap_setCell _ _ _ _ (by have := own_ge HO.out k hk; have := HY1.out.lt; show k ≠ w.heap.size + 1 + 1; omega)).trans ((Below.heap_setCell _ _ _ _ (by have := own_ge HO.out k hk; have := HY1.out.lt; show k ≠ w.heap.size + 1 + 1; omega)).trans ((Below.heap_setCell _ _ _ _ (by have := own_ge HO.out k hk; have := HY1.out.lt; show k ≠ w.heap.size + 1 + 1; omega)).trans ((Below.heap_setCell _ _ _ _ (by have := own_ge HO.out k hk; have := HZ1.out.lt; show k ≠ w.heap.size + 1; omega)).trans (Below.heap_setCell _ _ _ _ (by have := own_ge HO.out k hk; have := HZ1.out.lt; show k ≠ w.heap.size + 1; omega))))))) (fun k hk => ?_)
          have h1 := own_ge HO.out k hk
          have h2 := B1.out.size
          have h3 := HB.out
          omega
        · have h1 := own_ge HO.out k hk
          have h2 := B1.out.size
          omega
end Go.Proofs.Ytejoggbebmmlkaa
