/- The document's disk: Crash. Conditions: its rows lie in memory. -/
import Derived.Test.YtpgoacemjpobjaaQd
namespace Go.Proofs.Ytpgoacemjpobjaa
open Go Go.RowKit
set_option linter.unusedVariables false
set_option linter.unusedSimpArgs false
variable {w w' : World} {base n : Nat} {bad bad' : Nat → Prop} {D : Dk}

theorem SeeW.take {ad : Option Addr} {l : List Wr} (h : SeeW w bad ad l) (k : Nat) : SeeW w bad ad (l.take k) := by
  rcases h with rfl | ⟨g, h1, h2, h3, h4⟩
  · exact .inl (by simp)
  · refine .inr ⟨g, h1, h2, h3, fun j x hj => h4 j x ?_⟩
    rw [List.getElem?_take] at hj
    split at hj
    · exact hj
    · cases hj
theorem ba_take (s : Sec) (T : Nat) : (⟨s.toArray⟩ : ByteArray).extract 0 T = ⟨(s.take T).toArray⟩ := by
  apply ByteArray.ext; simp
theorem ba_drop (s : Sec) (T : Nat) (h : s.length = 64) : (⟨s.toArray⟩ : ByteArray).extract T 64 = ⟨(s.drop T).toArray⟩ := by
  apply ByteArray.ext; simp [List.extract, ← h]
  exact List.take_of_length_le (by simp)
theorem drew_four (y : World) (p1 p2 p3 p4 : Addr) (u1 u2 u3 u4 : Value) : ((((y.setCell p1 u1).setCell p2 u2).setCell p3 u3).setCell p4 u4).drew = (((y.drew.setCell p1 u1).setCell p2 u2).setCell p3 u3).setCell p4 u4 := rfl
theorem rcrash_fin {W w5 : World} {B0 len c : Nat} {ad : Option Addr} {keep tear : Int} {act : Act} (hl : (crashL D keep tear).length = len) (hz : Box w5 (W.heap.size + 1) 28 #[.slice none 0 0, .slice none 0 0, .int .i64 0, .bool false])
    (hO : w5.ownsRow B0 9 1 (.slice ad len c) len (strC (crashL D keep tear))) (hB : Below W.heap.size W w5) (hB0 : W.heap.size + 1 < B0) (hc : len ≤ c) (hd : act.defers = []) (ht : act.tmps.getD 6 undef = .pointer (some ⟨W.heap.size + 1, 0, none⟩)) :
    bodyPost Try.prog Try.f15 (fun e w' => ∃ af' cf', e = .returned (rdv af' none cf' 0 (crashD D keep tear)) ∧ RAt w' (fun i => i < W.heap.size) af' none cf' 0 (crashD D keep tear) ∧ Below W.heap.size W w') .ret act
      ((((w5.setCell ⟨W.heap.size + 1, 0, none⟩ (.slice ad len c)).setCell ⟨W.heap.size + 1, 1, none⟩ (.slice none 0 0)).setCell ⟨W.heap.size + 1, 2, none⟩ (.int .i64 0)).setCell ⟨W.heap.size + 1, 3, none⟩ (.bool false)) := by
  have hp : ∀ j, W.heap.size ≤ (⟨W.heap.size + 1, j, none⟩ : Addr).block := fun j => by show W.heap.size ≤ W.heap.size + 1; omega
  refine ret_box28 Try.results15 hd ht ((((hz.set 0 _).set 1 _).set 2 _).set 3 _) ⟨ad, c, ?_, ⟨?_, .inl rfl, ?_, Nat.le_refl _⟩, (((hB.setCell (hp 0) _).setCell (hp 1) _).setCell (hp 2) _).setCell (hp 3) _⟩
  · unfold rdv crashD; simp only [hl]; rfl
  · have hO2 := own_stays hO (w' := (((w5.setCell ⟨W.heap.size + 1, 0, none⟩ (.slice ad len c)).setCell ⟨W.heap.size + 1, 1, none⟩ (.slice none 0 0)).setCell ⟨W.heap.size + 1, 2, none⟩ (.int .i64 0)).setCell ⟨W.heap.size + 1, 3, none⟩ (.bool false)) (fun i hi => by
      have hne : i ≠ W.heap.size + 1 := by have := own_ge hO i hi; omega
      exact (Below.heap_setCell _ _ _ _ hne).trans ((Below.heap_setCell _ _ _ _ hne).trans ((Below.heap_setCell _ _ _ _ hne).trans (Below.heap_setCell _ _ _ _ hne))))
    exact SeeF.of_own hO2 (fun i _ h1 h2 => by omega)
  · show (crashL D keep tear).length ≤ c; omega
set_option maxHeartbeats 4000000 in
set_option maxRecDepth 100000 in
theorem rcrash_any {af aw : Option Addr} {cf cw : Nat} (keep tear : Int) (h : RAt w bad af aw cf cw D) (hg : Good D) (hwl : D.wait.length ≤ 1000000) :
    Calls Try.prog 15 #[rdv af aw cf cw D, .int .i64 keep, .int .i64 tear] w fun e w' => ∃ af' cf', e = .returned (rdv af' none cf' 0 (crashD D keep tear)) ∧ RAt w' (fun i => i < w.heap.size) af' none cf' 0 (crashD D keep tear) ∧ Below w.heap.size w w' := by
  obtain ⟨M, hM⟩ : ∃ M : Int, (if keep < 0 then 0 else keep) = M := ⟨_, rfl⟩
  obtain ⟨K, hK, hKE, hKL⟩ : ∃ K : Nat, (if (D.wait.length : Int) < M then (D.wait.length : Int) else M) = (K : Int) ∧ K = keepN D keep ∧ K ≤ D.wait.length := by
    refine ⟨keepN D keep, ?_, rfl, ?_⟩
    · unfold keepN; rw [← hM]; split <;> split <;> omega
    · unfold keepN; omega
  have hX := (Box.new w 28 #[.slice af D.firm.length cf, .slice aw D.wait.length cw, .int .i64 D.armed, .bool D.dead]).alloc (.cells #[.slice none 0 0, .slice none 0 0, .int .i64 0, .bool false] 28)
  have hZ := Box.new (w.alloc (.cells #[.slice af D.firm.length cf, .slice aw D.wait.length cw, .int .i64 D.armed, .bool D.dead] 28)) 28 #[.slice none 0 0, .slice none 0 0, .int .i64 0, .bool false]
  simp only [World.size_alloc] at hZ
  have HX := Lib.hid hX
  have HZ := Lib.hid hZ
  have B0 := Lib.hid (((Below.refl w.heap.size w).alloc (Nat.le_refl _) (.cells #[.slice af D.firm.length cf, .slice aw D.wait.length cw, .int .i64 D.armed, .bool D.dead] 28)).alloc (by simp) (.cells #[.slice none 0 0, .slice none 0 0, .int .i64 0, .bool false] 28))
  have hkc : (K : Int) ≤ (cw : Int) := by have := h.cw; omega
  have htl : (D.wait.take K).length = K := by rw [List.length_take]; omega
  have C1 := Lib.hid (fun (w3 : World) (b3 : Below w.heap.size w w3) => rfirm_any (w := w3) (cf := cf) (cw := cw) D.firm (D.wait.take K) (h.f.bel b3) ((h.w.take K).bel b3) (fun x hx => by rw [hg.same]; exact hg.lies x (List.mem_of_mem_take hx)) (by have := hg.same; have := hg.many; omega) (by omega))
  rw [htl] at C1
  have HW := Lib.hid h.w
  have HG := Lib.hid hg
  have HWL := Lib.hid hwl
  have HKE := Lib.hid hKE
  have HFU := Lib.hid (laid_full (l := D.firm) (ws := D.wait.take K) hg.fullf (hg.fullw.take K))
  have hfl : D.firm.length ≤ 65536 := by have := hg.same; have := hg.many; omega
  show Calls Try.prog 15 #[.agg #[.slice af D.firm.length cf, .slice aw D.wait.length cw, .int .i64 D.armed, .bool D.dead], .int .i64 keep, .int .i64 tear] w _
  clear h hg hwl hKE hX hZ htl
  go_enter Try.func15, Try.ntmps15
  go_wp2_with fail
  generalize ((w.alloc (.cells #[.slice af D.firm.length cf, .slice aw D.wait.length cw, .int .i64 D.armed, .bool D.dead] 28)).alloc (.cells #[.slice none 0 0, .slice none 0 0, .int .i64 0, .bool false] 28)) = w0 at HX HZ B0 ⊢
  have x1 : w0.cell? ⟨w.heap.size, 1, none⟩ = some (.slice aw D.wait.length cw) := HX.out.cell 1
  have hw0 := HX.out.lt
  go_wp2_with fail
  refine wp_region_phase (fun w' => Box w' w.heap.size 28 #[.slice af D.firm.length cf, .slice aw D.wait.length cw, .int .i64 D.armed, .bool D.dead]) [true, true, true, true, true, true, false, false] 7 _ _ _ (by kernel_rfl) rfl rfl (by kernel_rfl) rfl rfl (fun _ _ _ _ _ h => h) (HX.out.drew) ?_
  intro S HS
  simp only [taken, leftOut]
  go_big_quiet_want; apply quiet_value; (· (intro w' hw; have hbx := ((HS.out _).1 hw); have x0 : w'.cell? ⟨w.heap.size, 0, none⟩ = some (.slice af D.firm.length cf) := hbx.cell 0; go_simp; try rfl)); simp only [Act.put, List.setIfInBounds_toArray, List.set_cons_succ, List.set_cons_zero]; go_big_quiet_on
  go_big_quiet_want; apply quiet_value; (· (intro w' hw; have hbx := ((HS.out _).1 hw); have x0 : w'.cell? ⟨w.heap.size, 0, none⟩ = some (.slice af D.firm.length cf) := hbx.cell 0; go_simp; try rfl)); simp only [Act.put, List.setIfInBounds_toArray, List.set_cons_succ, List.set_cons_zero]; go_big_quiet_on
  go_big_quiet_want; apply quiet_value; (· (intro w' hw; have hbx := ((HS.out _).1 hw); have x1 : w'.cell? ⟨w.heap.size, 1, none⟩ = some (.slice aw D.wait.length cw) := hbx.cell 1; go_simp; try rfl)); simp only [Act.put, List.setIfInBounds_toArray, List.set_cons_succ, List.set_cons_zero]; go_big_quiet_on
  go_big_quiet_want; apply quiet_value; (· (intro w' hw; have hbx := ((HS.out _).1 hw); have x1 : w'.cell? ⟨w.heap.size, 1, none⟩ = some (.slice aw D.wait.length cw) := hbx.cell 1; go_simp; try rfl)); simp only [Act.put, List.setIfInBounds_toArray, List.set_cons_succ, List.set_cons_zero]; go_big_quiet_on
  go_big_quiet_want; go_big_quiet_op; go_big_quiet_on
  go_big_quiet_want; apply quiet_value; (· (intro w' hw; go_simp; try rfl)); simp only [Act.put, List.setIfInBounds_toArray, List.set_cons_succ, List.set_cons_zero]; go_big_quiet_on
  refine wpQuiet_nil ?_
  refine wpTail_more ?_
  go_wp2_with fail
  refine (C1.out _ B0.out.drew).mono ?_
  rintro e w3 ⟨a3, c3, rfl, own3, b3⟩
  have hs0 := B0.out.size
  have HX3 := Lib.hid (HX.out.drew.below b3 HX.out.lt)
  have HZ3 := Lib.hid (HZ.out.drew.below b3 HZ.out.lt)
  have B3 := Lib.hid (B0.out.drew.trans (b3.mono hs0))
  have HO3 := Lib.hid (show w3.ownsRow w0.heap.size 9 1 (.slice a3 D.firm.length c3) D.firm.length (strC (laid D.firm (D.wait.take K))) from own3)
  have HB0 := Lib.hid (show w.heap.size + 1 < w0.heap.size from HZ.out.lt)
  have hc3 : D.firm.length ≤ c3 := by
    rcases own3.2 with ⟨e, e2⟩ | ⟨g, cap', cur, e, _, _, h1, _⟩
    · omega
    · have e3 : c3 = cap' := by injection e
      omega
  have HC3 := Lib.hid hc3
  clear own3 b3 C1 x1 hw0 hc3
  go_wp2_with fail
  refine ThenS.mk ((HS.out _).2 HX3.out) ?_
  refine wpTail_last ?_
  have x1 : w3.cell? ⟨w.heap.size, 1, none⟩ = some (.slice aw D.wait.length cw) := HX3.out.cell 1
  have hw3 := HX3.out.lt
  have z0 : w3.cell? ⟨w.heap.size + 1, 0, none⟩ = some (.slice none 0 0) := HZ3.out.cell 0
  have z1 : w3.cell? ⟨w.heap.size + 1, 1, none⟩ = some (.slice none 0 0) := HZ3.out.cell 1
  have z2 : w3.cell? ⟨w.heap.size + 1, 2, none⟩ = some (.int .i64 0) := HZ3.out.cell 2
  have z3 : w3.cell? ⟨w.heap.size + 1, 3, none⟩ = some (.bool false) := HZ3.out.cell 3
  by_cases hkl : K < D.wait.length
  · obtain ⟨x, hx⟩ : ∃ x, D.wait[K]? = some x := ⟨_, List.getElem?_eq_getElem hkl⟩
    have hxl := HG.out.lies x (List.mem_of_getElem? hx)
    rw [← HG.out.same] at hxl
    have hx64 := HG.out.fullw x (List.mem_of_getElem? hx)
    have hlk : (laid D.firm (D.wait.take K)).length = D.firm.length := laid_len _ _
    obtain ⟨s, hs⟩ : ∃ s, (laid D.firm (D.wait.take K))[x.1]? = some s := ⟨_, List.getElem?_eq_getElem (by omega)⟩
    have hs64 := HFU.out s (List.mem_of_getElem? hs)
    obtain ⟨MT, hMT⟩ : ∃ MT : Int, (if tear < 0 then 0 else tear) = MT := ⟨_, rfl⟩
    obtain ⟨T, hT, hTE, hT64⟩ : ∃ T : Nat, (if 64 < MT then 64 else MT) = (T : Int) ∧ T = tearN tear ∧ T ≤ 64 := by
      refine ⟨tearN tear, ?_, rfl, ?_⟩
      · unfold tearN; rw [← hMT]; split <;> split <;> omega
      · unfold tearN; omega
    have HL : Hid (crashL D keep tear = (laid D.firm (D.wait.take K)).set x.1 (torn s x.2 T)) := by
      have : crashL D keep tear = (laid D.firm (D.wait.take K)).set x.1 (torn s x.2 T) := by
        unfold crashL
        rw [← HKE.out, hx, hTE]
        simp only [List.getD_eq_getElem?_getD, hs, Option.getD_some]
      exact this
    obtain ⟨gw, rfl, hgw, _, hWW⟩ := (HW.out.bel B3.out).resolve_left (fun e => by rw [e] at hkl; simp at hkl)
    obtain ⟨d0, d1⟩ := hWW K x hx
    obtain ⟨g3, rfl, hg3, hg3l, hcc⟩ := own_at HO3.out 0 (by omega)
    have cc := hcc x.1 (st s) (by simp only [strC, List.getElem?_map, hs, Option.map_some])
    have ff := own_free HO3.out x.1
    obtain ⟨sx, hsx⟩ : ∃ sx : ByteArray, sx = ⟨x.2.toArray⟩ := ⟨_, rfl⟩
    obtain ⟨ss, hss⟩ : ∃ ss : ByteArray, ss = ⟨s.toArray⟩ := ⟨_, rfl⟩
    have hzx : sx.size = 64 := by rw [hsx]; simpa [ByteArray.size] using hx64
    have hzs : ss.size = 64 := by rw [hss]; simpa [ByteArray.size] using hs64
    obtain ⟨sA, hsA⟩ : ∃ sA : ByteArray, sx.extract 0 T = sA := ⟨_, rfl⟩
    obtain ⟨sB, hsB⟩ : ∃ sB : ByteArray, ss.extract T 64 = sB := ⟨_, rfl⟩
    have hA : sA = ⟨(x.2.take T).toArray⟩ := by rw [← hsA, hsx, ba_take]
    have hB : sB = ⟨(s.drop T).toArray⟩ := by rw [← hsB, hss, ba_drop _ _ hs64]
    have HAB : Hid (Value.string (sA ++ sB) = st (torn s x.2 T)) := by
      have : Value.string (sA ++ sB) = st (torn s x.2 T) := by rw [hA, hB]; unfold st torn; congr 1
      exact this
    have hns : ¬ 9223372036854775807 < sA.size + sB.size := by rw [hA, hB]; simp [ByteArray.size]; try omega
    unfold st at d1 cc
    rw [← hsx] at d1
    rw [← hss] at cc
    have hT6 : (T : Int) ≤ 64 := by omega
    have hki : (K : Int) < (D.wait.length : Int) := by omega
    have hxi : (x.1 : Int) < (D.firm.length : Int) := by omega
    have HXL := Lib.hid hxl
    have HG3 := Lib.hid hg3
    have BA := Lib.hid (B3.out.alloc B3.out.size (.cells #[.int .i64 (x.1 : Int), .string sx] 72))
    have HXA := Lib.hid (Box.new w3 72 #[.int .i64 (x.1 : Int), .string sx])
    have HZA := Lib.hid (HZ3.out.alloc (.cells #[.int .i64 (x.1 : Int), .string sx] 72))
    have HOA := Lib.hid (own_stays HO3.out (w' := w3.alloc (.cells #[.int .i64 (x.1 : Int), .string sx] 72)) (fun i hi => Below.heap_alloc w3 _ i (own_lt HO3.out i hi)))
    have HCA := Lib.hid (show (w3.alloc (.cells #[.int .i64 (x.1 : Int), .string sx] 72)).cell? ⟨g3, x.1, none⟩ = some (.string ss) by rw [← cc]; exact World.cell?_of_block (Below.heap_alloc w3 _ g3 hg3l))
    clear hsx hss hx hs hA hB hcc hWW hTE hlk ff hx64 hs64
    go_wp2_with fail
    generalize w3.alloc (.cells #[.int .i64 (x.1 : Int), .string sx] 72) = w4 at BA HXA HZA HOA HCA ⊢
    refine wp_region_phase (fun w' => w'.cell? ⟨w3.heap.size, 0, none⟩ = some (.int .i64 (x.1 : Int)) ∧ w'.cell? ⟨w3.heap.size, 1, none⟩ = some (.string sx) ∧ w'.cell? ⟨g3, x.1, none⟩ = some (.string ss)) [true, true, true, true, true, true, true, true, true, true, true, true, true, true, true, false, false] 16 _ _ _ (by kernel_rfl) rfl rfl (by kernel_rfl) rfl rfl (fun _ _ _ _ _ h => h) (⟨HXA.out.cell 0, HXA.out.cell 1, HCA.out⟩) ?_
    intro S2 HS
    simp only [taken, leftOut]
    go_big_quiet_want; go_big_quiet_op; go_big_quiet_on
    go_big_quiet_want; apply quiet_value; (· (intro w' hw; go_simp; try rfl)); simp only [Act.put, List.setIfInBounds_toArray, List.set_cons_succ, List.set_cons_zero]; go_big_quiet_on
    go_big_quiet_want; apply quiet_value; (· (intro w' hw; have c0 := ((HS.out _).1 hw).1; go_simp; try rfl)); simp only [Act.put, List.setIfInBounds_toArray, List.set_cons_succ, List.set_cons_zero]; go_big_quiet_on
    go_big_quiet_want; apply quiet_value; (· (intro w' hw; go_simp; try rfl)); simp only [Act.put, List.setIfInBounds_toArray, List.set_cons_succ, List.set_cons_zero]; go_big_quiet_on
    go_big_quiet_want; apply quiet_value; (· (intro w' hw; have c1 := ((HS.out _).1 hw).2.1; go_simp; try rfl)); simp only [Act.put, List.setIfInBounds_toArray, List.set_cons_succ, List.set_cons_zero]; go_big_quiet_on
    go_big_quiet_want; go_big_quiet_op; go_big_quiet_on
    go_big_quiet_want; apply quiet_value; (· (intro w' hw; go_simp; try rfl)); simp only [Act.put, List.setIfInBounds_toArray, List.set_cons_succ, List.set_cons_zero]; go_big_quiet_on
    go_big_quiet_want; go_big_quiet_op; go_big_quiet_on
    go_big_quiet_want; apply quiet_value; (· (intro w' hw; go_simp; try rfl)); simp only [Act.put, List.setIfInBounds_toArray, List.set_cons_succ, List.set_cons_zero]; go_big_quiet_on
    go_big_quiet_want; apply quiet_value; (· (intro w' hw; have c0 := ((HS.out _).1 hw).1; go_simp; try rfl)); simp only [Act.put, List.setIfInBounds_toArray, List.set_cons_succ, List.set_cons_zero]; go_big_quiet_on
    go_big_quiet_want; apply quiet_value; (· (intro w' hw; go_simp; try rfl)); simp only [Act.put, List.setIfInBounds_toArray, List.set_cons_succ, List.set_cons_zero]; go_big_quiet_on
    go_big_quiet_want; apply quiet_value; (· (intro w' hw; have c2 := ((HS.out _).1 hw).2.2; go_simp; try rfl)); simp only [Act.put, List.setIfInBounds_toArray, List.set_cons_succ, List.set_cons_zero]; go_big_quiet_on
    go_big_quiet_want; go_big_quiet_op; go_big_quiet_on
    go_big_quiet_want; apply quiet_value; (· (intro w' hw; go_simp; try rfl)); simp only [Act.put, List.setIfInBounds_toArray, List.set_cons_succ, List.set_cons_zero]; go_big_quiet_on
    go_big_quiet_want; apply quiet_value; (· (intro w' hw; go_simp; try rfl)); simp only [Act.put, List.setIfInBounds_toArray, List.set_cons_succ, List.set_cons_zero]; go_big_quiet_on
    refine wpQuiet_nil ?_
    refine wpTail_more ?_
    go_wp2_with fail
    refine ThenS.mk ((HS.out _).2 ⟨HXA.out.cell 0, HXA.out.cell 1, HCA.out⟩) ?_
    refine wpTail_last ?_
    have ca := HCA.out
    have hn1 : ¬ g3 = w.heap.size + 1 := by have := HB0.out; have := HG3.out; omega
    have hn2 : ¬ w.heap.size + 1 = g3 := fun e => hn1 e.symm
    have q0 : w4.cell? ⟨w.heap.size + 1, 0, none⟩ = some (.slice none 0 0) := HZA.out.cell 0
    have q1 : w4.cell? ⟨w.heap.size + 1, 1, none⟩ = some (.slice none 0 0) := HZA.out.cell 1
    have q2 : w4.cell? ⟨w.heap.size + 1, 2, none⟩ = some (.int .i64 0) := HZA.out.cell 2
    have q3 : w4.cell? ⟨w.heap.size + 1, 3, none⟩ = some (.bool false) := HZA.out.cell 3
    have f0 := HZA.out.frozen 0
    have f1 := HZA.out.frozen 1
    have f2 := HZA.out.frozen 2
    have f3 := HZA.out.frozen 3
    have fa := own_free HOA.out x.1
    have HZD := Lib.hid ((HZA.out.set_other (p := ⟨g3, x.1, none⟩) (by show w.heap.size + 1 ≠ g3; have := HB0.out; have := HG3.out; omega) (.string (sA ++ sB))).drew)
    have BD := Lib.hid ((BA.out.setCell (p := ⟨g3, x.1, none⟩) (by show w.heap.size ≤ g3; have := HB0.out; have := HG3.out; omega) (.string (sA ++ sB))).drew)
    have HOD : Hid ((w4.setCell ⟨g3, x.1, none⟩ (.string (sA ++ sB))).drew.ownsRow w0.heap.size 9 1 (.slice (some ⟨g3, 0, none⟩) D.firm.length c3) D.firm.length (strC (crashL D keep tear))) := by
      have h1 := own_set (w := w4) HOA.out x.1 (by have := HXL.out; omega) (st (torn s x.2 T))
      rw [HL.out, HAB.out]
      rwa [show (strC (laid D.firm (D.wait.take K))).set x.1 (st (torn s x.2 T)) = strC ((laid D.firm (D.wait.take K)).set x.1 (torn s x.2 T)) by simp [strC]] at h1
    have HLN := Lib.hid (show (crashL D keep tear).length = D.firm.length by rw [HL.out, List.length_set, laid_len])
    go_wp2
    rw [drew_four]
    generalize (w4.setCell ⟨g3, x.1, none⟩ (.string (sA ++ sB))).drew = w5 at HZD BD HOD ⊢
    exact rcrash_fin (W := w) (w5 := w5) (B0 := w0.heap.size) HLN.out HZD.out HOD.out BD.out HB0.out HC3.out rfl rfl
  · have hlk : (laid D.firm (D.wait.take K)).length = D.firm.length := laid_len _ _
    have hlc : crashL D keep tear = laid D.firm (D.wait.take K) := by
      unfold crashL
      rw [← HKE.out, List.getElem?_eq_none (by omega)]
    have HLN := Lib.hid (show (crashL D keep tear).length = D.firm.length by rw [hlc, hlk])
    have HOD : Hid (w3.ownsRow w0.heap.size 9 1 (.slice a3 D.firm.length c3) D.firm.length (strC (crashL D keep tear))) := by rw [hlc]; exact HO3.out
    have hkk : K = D.wait.length := by omega
    have f0 := HZ3.out.frozen 0
    have f1 := HZ3.out.frozen 1
    have f2 := HZ3.out.frozen 2
    have f3 := HZ3.out.frozen 3
    clear hlk hlc
    go_wp2
    exact rcrash_fin (W := w) (w5 := w3) (B0 := w0.heap.size) HLN.out HZ3.out HOD.out B3.out HB0.out HC3.out rfl rfl
end Go.Proofs.Ytpgoacemjpobjaa
