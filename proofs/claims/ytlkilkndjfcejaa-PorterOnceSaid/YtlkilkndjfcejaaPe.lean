/- porter: on. Conditions: the client is in its bounds. -/
import Derived.Test.YtlkilkndjfcejaaPd
namespace Go.Proofs.Ytlkilkndjfcejaa
open Go Go.RowKit
set_option linter.unusedVariables false
set_option linter.unusedSimpArgs false
variable {w w' : World} {base n : Nat} {V V' : Vs} {s s' : St}

theorem Pt.drewN (h : Pt w base n V s) (k : Nat) : Pt (w.drewN k) base n V s := h.stays fun _ _ _ => rfl
theorem Pt.putG {g c : Nat} (h : Pt w base n V s) (hg : V.g = .slice (some ⟨g, 0, none⟩) s.guess.length c) (i : Nat) (x : Int) (hi : i < s.guess.length) (s' : St) (hs : s' = { s with guess := s.guess.set i x }) : Pt (w.setCell ⟨g, i, none⟩ (.int .i64 x)) base n V s' := by
  subst hs
  have hgo : V.g.ownBlock = some g := by rw [hg]; rfl
  have hgn : n ≠ g := fun e => own_box_ne h.rg h.box (by decide) (e ▸ hgo)
  refine ⟨h.box.set_other hgn _, ?_, ?_, ?_, ?_, h.dis, h.hn⟩
  · exact own_stays h.rm fun k hk => Below.heap_setCell _ _ _ _ (by rintro rfl; exact h.dis _ hk hgo)
  · have h0 := h.rg
    rw [hg] at h0 ⊢
    have := own_set h0 i (by omega) (.int .i64 x)
    show World.ownsRow _ base 3 1 _ (s.guess.set i x).length ((s.guess.set i x).map iv)
    rw [List.length_set, List.map_set]
    exact this
  · exact own_stays h.ro fun k hk => Below.heap_setCell _ _ _ _ (by rintro rfl; exact own_ne h.ro h.rg (by decide) _ hk hgo)
  · exact own_stays h.rd fun k hk => Below.heap_setCell _ _ _ _ (by rintro rfl; exact own_ne h.rd h.rg (by decide) _ hk hgo)
set_option maxHeartbeats 4000000 in
theorem on_end (h : Pt w base n V s) (hf : Fit s) (hb : base ≤ w.heap.size) (hv : 3 * mv s ≤ s.vain + 1) : Calls Try.prog 36 #[.pointer (some ⟨n, 0, none⟩)] w fun e w' => e = .returned (.tuple #[]) ∧ Does w base n V (onS s) w' := by
  obtain ⟨s1, hs1⟩ : ∃ s1 : St, s1 = { s with vain := s.vain + 1 } := ⟨_, rfl⟩
  have hon : onS s = endS s1 ⟨0, 210, zeroAn⟩ := by rw [hs1, onS, if_pos hv]
  have hn := h.box.lt
  have HP := Lib.hid (h.put 26 (.int .i64 (s.vain + 1)) s1 (by rw [hs1]; rfl) (by rw [hs1]) (by rw [hs1]) (by rw [hs1]) (by rw [hs1]))
  have HT := Lib.hid ((Touch.refl (Of n V) w).setCell (p := ⟨n, 26, none⟩) (.inl rfl) (.int .i64 (s.vain + 1)))
  have p26 : w.cell? ⟨n, 26, none⟩ = some (.int .i64 s.vain) := (h.box).cell 26
  have p2 : w.cell? ⟨n, 2, none⟩ = some (V.m) := (h.box).cell 2
  have p6 : w.cell? ⟨n, 6, none⟩ = some (.int .i64 (s.vol : Nat)) := (h.box).cell 6
  have f26 := h.box.frozen 26
  obtain ⟨g, cg, hvg, hgb, hgl, hvl, _, hgc, _⟩ := own_at1 h.rm s.vol (mv s) hf.mat
  rw [hvg] at p2
  have hgn : g ≠ n := fun e => own_box_ne h.rm h.box (by decide) (by rw [hvg, e]; rfl)
  have hv0 := hf.vain0
  have hv1 := hf.vain1
  have hm := hf.mv_in
  obtain ⟨m, hmm⟩ : ∃ m, m = mv s := ⟨_, rfl⟩
  rw [← hmm] at hgc hm hv
  obtain ⟨m0, m1⟩ := hm
  have h3 : IntKind.i64.wrap (3 * m) = 3 * m := by rw [IntKind.wrap_i64]; omega
  rw [hon]
  clear h hon hvg hf hs1 hmm
  go_enter Try.func36, Try.ntmps36
  go_wp2_with fail
  go_quiet (fail)
  go_wp2_with fail
  refine (end_any ⟨0, 210, zeroAn⟩ (HP.out.drewN nq) (by show base ≤ (w.setCell _ _).heap.size; simpa using hb)).mono ?_
  rintro e w2 ⟨rfl, V2, hP2, hG2⟩
  have HG := Lib.hid hG2
  have HP2 := Lib.hid hP2
  clear hG2 hP2
  go_wp2
  refine bodyPost_ret (results_none rfl _ _ _) rfl ?_
  exact ⟨rfl, V2, HP2.out, Goes.trans ⟨HT.out.drewN nq, fun _ hk => .inl hk⟩ HG.out⟩
set_option maxRecDepth 100000 in
set_option maxHeartbeats 4000000 in
theorem on_more (h : Pt w base n V s) (hf : Fit s) (hb : base ≤ w.heap.size) (hl : s.out.length ≤ 500) (hd : s.done = []) (hv : ¬ 3 * mv s ≤ s.vain + 1) : Calls Try.prog 36 #[.pointer (some ⟨n, 0, none⟩)] w fun e w' => e = .returned (.tuple #[]) ∧ Does w base n V (onS s) w' := by
  obtain ⟨s1, hs1⟩ : ∃ s1 : St, s1 = { s with vain := s.vain + 1 } := ⟨_, rfl⟩
  obtain ⟨s2, hs2⟩ : ∃ s2 : St, s2 = { s with vain := s.vain + 1, guess := s.guess.set s.vol ((gv s + 1) % mv s) } := ⟨_, rfl⟩
  have hon : onS s = askS s2 := by rw [hs2, onS, if_neg hv]
  have hf2 : Fit s2 := by
    have hm := hf.mv_in
    have h1 := hf.vain0
    rw [hs2]
    exact ⟨by show (s.guess.set _ _).length = _; rw [List.length_set]; exact hf.len, hf.few, hf.vol, hf.many, set_guess hf.guess _ (fun m hm' => by
      rw [hf.mat] at hm'
      obtain rfl := Option.some.inj hm'
      exact mod_in hf.gv_in), hf.nu0, hf.nu1, hf.wait0, hf.wait1, hf.pa0, hf.pa, by show (0 : Int) ≤ s.vain + 1; omega, by show s.vain + 1 ≤ 21; omega, hf.done⟩
  have hl2 : s2.out.length ≤ 500 := by rw [hs2]; exact hl
  have hn := h.box.lt
  have hP1 := h.put 26 (.int .i64 (s.vain + 1)) s1 (by rw [hs1]; rfl) (by rw [hs1]) (by rw [hs1]) (by rw [hs1]) (by rw [hs1])
  have HP := Lib.hid hP1
  have HT := Lib.hid ((Touch.refl (Of n V) w).setCell (p := ⟨n, 26, none⟩) (.inl rfl) (.int .i64 (s.vain + 1)))
  have p26 : w.cell? ⟨n, 26, none⟩ = some (.int .i64 s.vain) := (h.box).cell 26
  have p2 : w.cell? ⟨n, 2, none⟩ = some (V.m) := (h.box).cell 2
  have p6 : w.cell? ⟨n, 6, none⟩ = some (.int .i64 (s.vol : Nat)) := (h.box).cell 6
  have f26 := h.box.frozen 26
  obtain ⟨g, cg, hvg, hgb, hgl, hvl, _, hgc, _⟩ := own_at1 h.rm s.vol (mv s) hf.mat
  obtain ⟨g2, cg2, hvg2, hgb2, hgl2, hvl2, _, hgc2, hgf2⟩ := own_at1 h.rg s.vol (gv s) hf.gat
  rw [hvg] at p2
  have hgn : g ≠ n := fun e => own_box_ne h.rm h.box (by decide) (by rw [hvg, e]; rfl)
  have hgn2 : g2 ≠ n := fun e => own_box_ne h.rg h.box (by decide) (by rw [hvg2, e]; rfl)
  have hgg : g ≠ g2 := fun e => h.dis g (by rw [hvg]; rfl) (by rw [hvg2, e]; rfl)
  have hv0 := hf.vain0
  have hv1 := hf.vain1
  have hm := hf.mv_in
  have hgv := hf.gv_in
  obtain ⟨m, hmm⟩ : ∃ m, m = mv s := ⟨_, rfl⟩
  obtain ⟨x, hxx⟩ : ∃ x, x = gv s := ⟨_, rfl⟩
  rw [← hmm] at hgc hm hv hgv
  rw [← hxx] at hgc2 hgv
  obtain ⟨m0, m1⟩ := hm
  obtain ⟨x0, x1⟩ := hgv
  have h3 : IntKind.i64.wrap (3 * m) = 3 * m := by rw [IntKind.wrap_i64]; omega
  have HM := Lib.hid hmm
  have HX := Lib.hid hxx
  have HS1 := Lib.hid hs1
  have HS2 := Lib.hid hs2
  have HF2 := Lib.hid hf2
  have HVG := Lib.hid hvg
  have HVG2 := Lib.hid hvg2
  have HLEN := Lib.hid hf.len
  have HGA := Lib.hid hf.gat
  rw [hon]
  clear h hon hvg hvg2 hf hs1 hs2 hf2 hmm hxx hP1
  go_enter Try.func36, Try.ntmps36
  go_wp2_with fail
  go_quiet (fail)
  go_wp2_with fail
  have hc1 : (w.setCell ⟨n, 26, none⟩ (.int .i64 (s.vain + 1))).cell? ⟨g, s.vol, none⟩ = some (.int .i64 m) := by rw [World.cell?_setCell_other _ _ _ _ (by simp [hgn])]; exact hgc
  have hc2 : (w.setCell ⟨n, 26, none⟩ (.int .i64 (s.vain + 1))).cell? ⟨g2, s.vol, none⟩ = some (.int .i64 x) := by rw [World.cell?_setCell_other _ _ _ _ (by simp [hgn2])]; exact hgc2
  generalize w.setCell ⟨n, 26, none⟩ (.int .i64 (s.vain + 1)) = w1 at HT HP hc1 hc2 ⊢
  have hx1 : IntKind.i64.wrap (x + 1) = x + 1 := by rw [IntKind.wrap_i64]; omega
  have hmod : (x + 1).tmod m = (x + 1) % m := Int.tmod_eq_emod_of_nonneg (by omega)
  have hwm : IntKind.i64.wrap ((x + 1) % m) = (x + 1) % m := by
    have h1 := Int.emod_nonneg (x + 1) (show m ≠ 0 by omega)
    have h2 := Int.emod_lt_of_pos (x + 1) (show 0 < m by omega)
    rw [IntKind.wrap_i64]; omega
  have hm0 : ¬ m = 0 := by omega
  have HV1 := Lib.hid (show s1.vol = s.vol by rw [HS1.out])
  have hs1g : s1.guess = s.guess := by rw [HS1.out]
  have hs1m : s1.many = s.many := by rw [HS1.out]
  refine wp_region_phase (fun w' => Box w' n 98 (pcs s1 V) ∧ w'.cell? ⟨g, s.vol, none⟩ = some (.int .i64 m) ∧ w'.cell? ⟨g2, s.vol, none⟩ = some (.int .i64 x)) [true, true, true, true, true, true, true, true, true, true, true, true, true, true, true, true, true, true, true, true, true, true, true, true, true, true, true, true, true, true, true, false] 31 _ _ _ (by kernel_rfl) rfl rfl (by kernel_rfl) rfl rfl (fun _ _ _ _ _ h => h) ⟨HP.out.box.drew, hc1, hc2⟩ ?_
  intro S HS
  simp only [taken, leftOut]
  go_big_quiet_want; go_big_quiet_op; go_big_quiet_on
  go_big_quiet_want; apply quiet_value; (· (intro w' hw; have hB := ((HS.out _).1 hw).1; have hnl := hB.lt; go_simp; try rfl)); simp only [Act.put, List.setIfInBounds_toArray, List.set_cons_succ, List.set_cons_zero]; go_big_quiet_on
  go_big_quiet_want; apply quiet_value; (· (intro w' hw; go_simp; try rfl)); simp only [Act.put, List.setIfInBounds_toArray, List.set_cons_succ, List.set_cons_zero]; go_big_quiet_on
  go_big_quiet_want; apply quiet_value; (· (intro w' hw; have hB := ((HS.out _).1 hw).1; have p3 : w'.cell? ⟨n, 3, none⟩ = some (V.g) := (hB).cell 3; have hnl := hB.lt; rw [HVG2.out] at p3; go_simp; try rfl)); simp only [Act.put, List.setIfInBounds_toArray, List.set_cons_succ, List.set_cons_zero]; go_big_quiet_on
  go_big_quiet_want; go_big_quiet_op; go_big_quiet_on
  go_big_quiet_want; apply quiet_value; (· (intro w' hw; have hB := ((HS.out _).1 hw).1; have hnl := hB.lt; go_simp; try rfl)); simp only [Act.put, List.setIfInBounds_toArray, List.set_cons_succ, List.set_cons_zero]; go_big_quiet_on
  go_big_quiet_want; apply quiet_value; (· (intro w' hw; go_simp; try rfl)); simp only [Act.put, List.setIfInBounds_toArray, List.set_cons_succ, List.set_cons_zero]; go_big_quiet_on
  go_big_quiet_want; apply quiet_value; (· (intro w' hw; have hB := ((HS.out _).1 hw).1; have p6 : w'.cell? ⟨n, 6, none⟩ = some (.int .i64 (s1.vol : Nat)) := (hB).cell 6; have hnl := hB.lt; rw [HV1.out] at p6; go_simp; try rfl)); simp only [Act.put, List.setIfInBounds_toArray, List.set_cons_succ, List.set_cons_zero]; go_big_quiet_on
  go_big_quiet_want; go_big_quiet_op; go_big_quiet_on
  go_big_quiet_want; apply quiet_value; (· (intro w' hw; have hB := ((HS.out _).1 hw).1; have hnl := hB.lt; go_simp; try rfl)); simp only [Act.put, List.setIfInBounds_toArray, List.set_cons_succ, List.set_cons_zero]; go_big_quiet_on
  go_big_quiet_want; apply quiet_value; (· (intro w' hw; go_simp; try rfl)); simp only [Act.put, List.setIfInBounds_toArray, List.set_cons_succ, List.set_cons_zero]; go_big_quiet_on
  go_big_quiet_want; apply quiet_value; (· (intro w' hw; have hB := ((HS.out _).1 hw).1; have p3 : w'.cell? ⟨n, 3, none⟩ = some (V.g) := (hB).cell 3; have hnl := hB.lt; rw [HVG2.out] at p3; go_simp; try rfl)); simp only [Act.put, List.setIfInBounds_toArray, List.set_cons_succ, List.set_cons_zero]; go_big_quiet_on
  go_big_quiet_want; go_big_quiet_op; go_big_quiet_on
  go_big_quiet_want; apply quiet_value; (· (intro w' hw; have hB := ((HS.out _).1 hw).1; have hnl := hB.lt; go_simp; try rfl)); simp only [Act.put, List.setIfInBounds_toArray, List.set_cons_succ, List.set_cons_zero]; go_big_quiet_on
  go_big_quiet_want; apply quiet_value; (· (intro w' hw; go_simp; try rfl)); simp only [Act.put, List.setIfInBounds_toArray, List.set_cons_succ, List.set_cons_zero]; go_big_quiet_on
  go_big_quiet_want; apply quiet_value; (· (intro w' hw; have hB := ((HS.out _).1 hw).1; have p6 : w'.cell? ⟨n, 6, none⟩ = some (.int .i64 (s1.vol : Nat)) := (hB).cell 6; have hnl := hB.lt; rw [HV1.out] at p6; go_simp; try rfl)); simp only [Act.put, List.setIfInBounds_toArray, List.set_cons_succ, List.set_cons_zero]; go_big_quiet_on
  go_big_quiet_want; apply quiet_value; (· (intro w' hw; have hc := ((HS.out _).1 hw).2.2; have hl := World.block_lt_of_cell? _ _ hc; go_simp; try rfl)); simp only [Act.put, List.setIfInBounds_toArray, List.set_cons_succ, List.set_cons_zero]; go_big_quiet_on
  go_big_quiet_want; apply quiet_value; (· (intro w' hw; have hc := ((HS.out _).1 hw).2.2; have hl := World.block_lt_of_cell? _ _ hc; go_simp; try rfl)); simp only [Act.put, List.setIfInBounds_toArray, List.set_cons_succ, List.set_cons_zero]; go_big_quiet_on
  go_big_quiet_want; apply quiet_value; (· (intro w' hw; go_simp; try rfl)); simp only [Act.put, List.setIfInBounds_toArray, List.set_cons_succ, List.set_cons_zero]; go_big_quiet_on
  go_big_quiet_want; go_big_quiet_op; go_big_quiet_on
  go_big_quiet_want; apply quiet_value; (· (intro w' hw; have hB := ((HS.out _).1 hw).1; have hnl := hB.lt; go_simp; try rfl)); simp only [Act.put, List.setIfInBounds_toArray, List.set_cons_succ, List.set_cons_zero]; go_big_quiet_on
  go_big_quiet_want; apply quiet_value; (· (intro w' hw; go_simp; try rfl)); simp only [Act.put, List.setIfInBounds_toArray, List.set_cons_succ, List.set_cons_zero]; go_big_quiet_on
  go_big_quiet_want; apply quiet_value; (· (intro w' hw; have hB := ((HS.out _).1 hw).1; have p2 : w'.cell? ⟨n, 2, none⟩ = some (V.m) := (hB).cell 2; have hnl := hB.lt; rw [HVG.out] at p2; go_simp; try rfl)); simp only [Act.put, List.setIfInBounds_toArray, List.set_cons_succ, List.set_cons_zero]; go_big_quiet_on
  go_big_quiet_want; go_big_quiet_op; go_big_quiet_on
  go_big_quiet_want; apply quiet_value; (· (intro w' hw; have hB := ((HS.out _).1 hw).1; have hnl := hB.lt; go_simp; try rfl)); simp only [Act.put, List.setIfInBounds_toArray, List.set_cons_succ, List.set_cons_zero]; go_big_quiet_on
  go_big_quiet_want; apply quiet_value; (· (intro w' hw; go_simp; try rfl)); simp only [Act.put, List.setIfInBounds_toArray, List.set_cons_succ, List.set_cons_zero]; go_big_quiet_on
  go_big_quiet_want; apply quiet_value; (· (intro w' hw; have hB := ((HS.out _).1 hw).1; have p6 : w'.cell? ⟨n, 6, none⟩ = some (.int .i64 (s1.vol : Nat)) := (hB).cell 6; have hnl := hB.lt; rw [HV1.out] at p6; go_simp; try rfl)); simp only [Act.put, List.setIfInBounds_toArray, List.set_cons_succ, List.set_cons_zero]; go_big_quiet_on
  go_big_quiet_want; apply quiet_value; (· (intro w' hw; have hc := ((HS.out _).1 hw).2.1; have hl := World.block_lt_of_cell? _ _ hc; go_simp; try rfl)); simp only [Act.put, List.setIfInBounds_toArray, List.set_cons_succ, List.set_cons_zero]; go_big_quiet_on
  go_big_quiet_want; apply quiet_value; (· (intro w' hw; have hc := ((HS.out _).1 hw).2.1; have hl := World.block_lt_of_cell? _ _ hc; go_simp; try rfl)); simp only [Act.put, List.setIfInBounds_toArray, List.set_cons_succ, List.set_cons_zero]; go_big_quiet_on
  go_big_quiet_want; apply quiet_value; (· (intro w' hw; go_simp; try rfl)); simp only [Act.put, List.setIfInBounds_toArray, List.set_cons_succ, List.set_cons_zero]; go_big_quiet_on
  go_big_quiet_want; apply quiet_value; (· (intro w' hw; have hc := ((HS.out _).1 hw).2.2; have hl := World.block_lt_of_cell? _ _ hc; go_simp; try rfl)); simp only [Act.put, List.setIfInBounds_toArray, List.set_cons_succ, List.set_cons_zero]; go_big_quiet_on
  refine wpQuiet_nil ?_
  refine wpTail_last ?_
  have hg2l := World.block_lt_of_cell? _ _ hc2
  have hg2f : w1.frozen? ⟨g2, s.vol, none⟩ = false := by
    obtain ⟨g3, cg3, h3, _, _, _, _, _, hf⟩ := own_at1 HP.out.rg s.vol x (by rw [hs1g]; rw [HX.out]; exact HGA.out)
    obtain ⟨rfl, rfl⟩ : g2 = g3 ∧ cg2 = cg3 := (by have e := HVG2.out.symm.trans h3; simpa [hs1g] using e)
    exact hf
  go_wp2_with fail
  have HP3 := Lib.hid ((HP.out.drewN nq).drew.putG (c := cg2) (by rw [hs1g]; exact HVG2.out) s.vol ((x + 1) % m) (by rw [hs1g]; exact hvl2) s2 (by rw [HS2.out, HS1.out, HM.out, HX.out]))
  have HT3 := Lib.hid (((HT.out.drewN nq).drew.setCell (p := ⟨g2, s.vol, none⟩) (.inr (.inr (.inl (by rw [HVG2.out]; rfl)))) (.int .i64 ((x + 1) % m))))
  have hb3 : base ≤ (((w1.drewN nq).drew).setCell ⟨g2, s.vol, none⟩ (.int .i64 ((x + 1) % m))).heap.size := by
    have := HT3.out.size
    omega
  refine (ask_any HP3.out HF2.out hb3 hl2).mono ?_
  rintro e w2 ⟨rfl, V2, hP2, hG2⟩
  have HG := Lib.hid hG2
  have HP2 := Lib.hid hP2
  clear hG2 hP2
  go_wp2
  go_end0
  exact ⟨rfl, V2, HP2.out, Goes.trans ⟨HT3.out, fun _ hk => .inl hk⟩ HG.out⟩
theorem on_any (h : Pt w base n V s) (hf : Fit s) (hb : base ≤ w.heap.size) (hl : s.out.length ≤ 500) (hd : s.done = []) : Calls Try.prog 36 #[.pointer (some ⟨n, 0, none⟩)] w fun e w' => e = .returned (.tuple #[]) ∧ Does w base n V (onS s) w' := by
  by_cases hv : 3 * mv s ≤ s.vain + 1
  · exact on_end h hf hb hv
  · exact on_more h hf hb hl hd hv
end Go.Proofs.Ytlkilkndjfcejaa
