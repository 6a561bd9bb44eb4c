/- porter: ask. Conditions: the client is in its bounds. -/
import Derived.Test.YtlkilkndjfcejaaPb
import Derived.Test.YtlkilkndjfcejaaBig
namespace Go.Proofs.Ytlkilkndjfcejaa
open Go Go.RowKit
set_option linter.unusedVariables false
set_option linter.unusedSimpArgs false
variable {w w' : World} {base n : Nat} {V V' : Vs} {s s' : St}

theorem row54 : (Try.prog.info? 54).map (fun i => (i.zero, i.size, i.bytes)) = some (some (.agg #[.int .i64 0, .int .i64 0, .int .i64 0, .int .i64 0, .int .i64 0, .int .i64 0, .int .i64 0, .int .i64 0, .int .i64 0, .string ⟨#[]⟩, .string ⟨#[]⟩, .int .i64 0, .int .i64 0, .int .i64 0, .string ⟨#[]⟩, .bool false, .int .i64 0, .int .i64 0, .int .i64 0, .string ⟨#[]⟩]), 20, 192) := by kernel_rfl
theorem row81 : (Try.prog.info? 81).map (fun i => (i.zero, i.size, i.bytes)) = some (some (.agg #[.int .i64 0, .int .i64 0, .int .i64 0, .int .i64 0, .int .i64 0, .string ⟨#[]⟩, .int .i64 0, .int .i64 0, .int .i64 0, .int .i64 0, .int .i64 0, .int .i64 0, .int .i64 0, .int .i64 0, .slice none 0 0]), 15, 144) := by kernel_rfl
theorem rq_src {w : World} {xb c : Nat} (r : Rq) (hx : Box w xb 54 (qc r)) : Src w (some ⟨xb, 0, none⟩) 1 20 (ql r) := by
  refine ⟨rfl, by simp [ql, Value.oneCell'], .inr ⟨_, rfl, fun j u hj => ?_⟩⟩
  rw [Addr.add_lit, Nat.zero_add, hx.cell j, ← Array.getElem?_toList]
  exact hj
set_option maxRecDepth 100000 in
set_option maxHeartbeats 4000000 in
theorem ask_any (h : Pt w base n V s) (hf : Fit s) (hb : base ≤ w.heap.size) (hl : s.out.length ≤ 500) : Calls Try.prog 31 #[.pointer (some ⟨n, 0, none⟩)] w fun e w' => e = .returned (.tuple #[]) ∧ Does w base n V (askS s) w' := by
  have hn := h.box.lt
  have f25 := h.box.frozen 25
  have p25 : w.cell? ⟨n, 25, none⟩ = some (.int .i64 s.wait) := (h.box).cell 25
  obtain ⟨s1, hs1, hp1, hga, hl1⟩ : ∃ s1 : St, askS s = { s1 with out := s1.out ++ [⟨s1.vol, gv s1, s1.c⟩] } ∧ Pt (w.setCell ⟨n, 25, none⟩ (.int .i64 0)) base n V s1 ∧ s1.guess[s1.vol]? = some (gv s1) ∧ s1.out.length ≤ 500 := ⟨{ s with wait := 0 }, rfl, h.put 25 _ _ rfl rfl rfl rfl rfl, hf.gat, hl⟩
  obtain ⟨g, cg, hvg, hgb, hgl, hvl, _, hgc, _⟩ := own_at1 hp1.rg s1.vol (gv s1) hga
  obtain ⟨ao, co, hvo, _⟩ := own_shape hp1.ro
  have HT := Lib.hid (((Touch.refl (Of n V) w).setCell (p := ⟨n, 25, none⟩) (.inl rfl) (.int .i64 0)))
  have HP := Lib.hid hp1
  have HGA := Lib.hid hga
  have HVG := Lib.hid hvg
  have HVO := Lib.hid hvo
  rw [hs1]
  clear h hs1 hp1 hga hvg hvo hgc hf
  go_enter Try.func31, Try.ntmps31
  go_wp2
  generalize w.setCell ⟨n, 25, none⟩ (.int .i64 0) = w1 at HT HP hgl ⊢
  have hn1 := HP.out.box.lt
  have hb1 := HT.out.size
  refine wp_region_phase (fun w' => Box w' n 98 (pcs s1 V) ∧ w'.ownsRow base 3 1 V.g s1.guess.length (s1.guess.map iv)) [true, true, true, true, true, true, true, true, true, true, true, true, true, true, true, true, true, true, true, true, true, true, true, true, false, false, false, false, false] 28 _ _ _ (by kernel_rfl) rfl rfl (by kernel_rfl) rfl rfl (fun _ _ _ _ _ h => h) (⟨HP.out.box.drew, HP.out.rg.drew⟩) ?_
  intro S HS
  simp only [taken, leftOut]
  go_big_quiet_want; go_big_quiet_op; go_big_quiet_on
  go_big_quiet_want; go_big_quiet_op; go_big_quiet_on
  go_big_quiet_want; apply quiet_value; (· (intro w' hw; have hB := ((HS.out _).1 hw).1; have hnl := hB.lt; go_simp; try rfl)); simp only [Act.put, List.setIfInBounds_toArray, List.set_cons_succ, List.set_cons_zero]; go_big_quiet_on
  go_big_quiet_want; apply quiet_value; (· (intro w' hw; go_simp; try rfl)); simp only [Act.put, List.setIfInBounds_toArray, List.set_cons_succ, List.set_cons_zero]; go_big_quiet_on
  go_big_quiet_want; apply quiet_value; (· (intro w' hw; have hB := ((HS.out _).1 hw).1; have p27 : w'.cell? ⟨n, 27, none⟩ = some (V.o) := (hB).cell 27; have hnl := hB.lt; rw [HVO.out] at p27; go_simp; try rfl)); simp only [Act.put, List.setIfInBounds_toArray, List.set_cons_succ, List.set_cons_zero]; go_big_quiet_on
  go_big_quiet_want; go_big_quiet_op; go_big_quiet_on
  go_big_quiet_want; apply quiet_value; (· (intro w' hw; have hB := ((HS.out _).1 hw).1; have hnl := hB.lt; go_simp; try rfl)); simp only [Act.put, List.setIfInBounds_toArray, List.set_cons_succ, List.set_cons_zero]; go_big_quiet_on
  go_big_quiet_want; apply quiet_value; (· (intro w' hw; go_simp; try rfl)); simp only [Act.put, List.setIfInBounds_toArray, List.set_cons_succ, List.set_cons_zero]; go_big_quiet_on
  go_big_quiet_want; apply quiet_value; (· (intro w' hw; have hB := ((HS.out _).1 hw).1; have p6 : w'.cell? ⟨n, 6, none⟩ = some (.int .i64 (s1.vol : Nat)) := (hB).cell 6; have hnl := hB.lt; go_simp; try rfl)); simp only [Act.put, List.setIfInBounds_toArray, List.set_cons_succ, List.set_cons_zero]; go_big_quiet_on
  go_big_quiet_want; go_big_quiet_op; go_big_quiet_on
  go_big_quiet_want; apply quiet_value; (· (intro w' hw; have hB := ((HS.out _).1 hw).1; have hnl := hB.lt; go_simp; try rfl)); simp only [Act.put, List.setIfInBounds_toArray, List.set_cons_succ, List.set_cons_zero]; go_big_quiet_on
  go_big_quiet_want; apply quiet_value; (· (intro w' hw; go_simp; try rfl)); simp only [Act.put, List.setIfInBounds_toArray, List.set_cons_succ, List.set_cons_zero]; go_big_quiet_on
  go_big_quiet_want; apply quiet_value; (· (intro w' hw; have hB := ((HS.out _).1 hw).1; have p3 : w'.cell? ⟨n, 3, none⟩ = some (V.g) := (hB).cell 3; have hnl := hB.lt; rw [HVG.out] at p3; go_simp; try rfl)); simp only [Act.put, List.setIfInBounds_toArray, List.set_cons_succ, List.set_cons_zero]; go_big_quiet_on
  go_big_quiet_want; go_big_quiet_op; go_big_quiet_on
  go_big_quiet_want; apply quiet_value; (· (intro w' hw; have hB := ((HS.out _).1 hw).1; have hnl := hB.lt; go_simp; try rfl)); simp only [Act.put, List.setIfInBounds_toArray, List.set_cons_succ, List.set_cons_zero]; go_big_quiet_on
  go_big_quiet_want; apply quiet_value; (· (intro w' hw; go_simp; try rfl)); simp only [Act.put, List.setIfInBounds_toArray, List.set_cons_succ, List.set_cons_zero]; go_big_quiet_on
  go_big_quiet_want; apply quiet_value; (· (intro w' hw; have hB := ((HS.out _).1 hw).1; have p6 : w'.cell? ⟨n, 6, none⟩ = some (.int .i64 (s1.vol : Nat)) := (hB).cell 6; have hnl := hB.lt; go_simp; try rfl)); simp only [Act.put, List.setIfInBounds_toArray, List.set_cons_succ, List.set_cons_zero]; go_big_quiet_on
  go_big_quiet_want; apply quiet_value; (· (intro w' hw; obtain ⟨g', cg', hvg', _, hgl, hvl, _, hgc, _⟩ := own_at1 ((HS.out _).1 hw).2 s1.vol (gv s1) HGA.out; obtain ⟨rfl, rfl⟩ : g = g' ∧ cg = cg' := (by have e := HVG.out.symm.trans hvg'; simpa using e); go_simp; try rfl)); simp only [Act.put, List.setIfInBounds_toArray, List.set_cons_succ, List.set_cons_zero]; go_big_quiet_on
  go_big_quiet_want; apply quiet_value; (· (intro w' hw; obtain ⟨g', cg', hvg', _, hgl, hvl, _, hgc, _⟩ := own_at1 ((HS.out _).1 hw).2 s1.vol (gv s1) HGA.out; obtain ⟨rfl, rfl⟩ : g = g' ∧ cg = cg' := (by have e := HVG.out.symm.trans hvg'; simpa using e); go_simp; try rfl)); simp only [Act.put, List.setIfInBounds_toArray, List.set_cons_succ, List.set_cons_zero]; go_big_quiet_on
  go_big_quiet_want; go_big_quiet_op; go_big_quiet_on
  go_big_quiet_want; apply quiet_value; (· (intro w' hw; have hB := ((HS.out _).1 hw).1; have hnl := hB.lt; go_simp; try rfl)); simp only [Act.put, List.setIfInBounds_toArray, List.set_cons_succ, List.set_cons_zero]; go_big_quiet_on
  go_big_quiet_want; apply quiet_value; (· (intro w' hw; go_simp; try rfl)); simp only [Act.put, List.setIfInBounds_toArray, List.set_cons_succ, List.set_cons_zero]; go_big_quiet_on
  go_big_quiet_want; apply quiet_value; (· (intro w' hw; have hB := ((HS.out _).1 hw).1; exact load_box_val 52 _ rfl n 7 rfl hB [.int .i64 s1.c.cl, .int .i64 s1.c.nu, .int .i64 s1.c.kd, .int .i64 s1.c.h1, .int .i64 s1.c.h2, .int .i64 s1.c.g1, .int .i64 s1.c.g2, .string s1.c.nm, .string s1.c.ot, .int .i64 s1.c.m1, .int .i64 s1.c.m2, .int .i64 s1.c.m3, .string s1.c.mt, .bool s1.c.fo, .int .i64 s1.c.aa, .int .i64 s1.c.nn, .int .i64 s1.c.tt, .string s1.c.bb] rfl Try.underlying52 rfl (by kernel_rfl))); simp only [Act.put, List.setIfInBounds_toArray, List.set_cons_succ, List.set_cons_zero]; go_big_quiet_on
  go_big_quiet_want; apply quiet_value; (· (intro w' hw; go_simp; try rfl)); simp only [Act.put, List.setIfInBounds_toArray, List.set_cons_succ, List.set_cons_zero]; go_big_quiet_on
  refine wpQuiet_nil ?_
  refine wpTail_more ?_
  go_wp2_with fail
  have HP2 := Lib.hid (HP.out.drew.alloc (.cells #[.int .i64 (s1.vol : Nat), .int .i64 (gv s1), .int .i64 s1.c.cl, .int .i64 s1.c.nu, .int .i64 s1.c.kd, .int .i64 s1.c.h1, .int .i64 s1.c.h2, .int .i64 s1.c.g1, .int .i64 s1.c.g2, .string s1.c.nm, .string s1.c.ot, .int .i64 s1.c.m1, .int .i64 s1.c.m2, .int .i64 s1.c.m3, .string s1.c.mt, .bool s1.c.fo, .int .i64 s1.c.aa, .int .i64 s1.c.nn, .int .i64 s1.c.tt, .string s1.c.bb] 54))
  have HQ2 := Lib.hid (Box.new w1.drew 54 #[.int .i64 (s1.vol : Nat), .int .i64 (gv s1), .int .i64 s1.c.cl, .int .i64 s1.c.nu, .int .i64 s1.c.kd, .int .i64 s1.c.h1, .int .i64 s1.c.h2, .int .i64 s1.c.g1, .int .i64 s1.c.g2, .string s1.c.nm, .string s1.c.ot, .int .i64 s1.c.m1, .int .i64 s1.c.m2, .int .i64 s1.c.m3, .string s1.c.mt, .bool s1.c.fo, .int .i64 s1.c.aa, .int .i64 s1.c.nn, .int .i64 s1.c.tt, .string s1.c.bb])
  have HT2 := Lib.hid (HT.out.drew.alloc (.cells #[.int .i64 (s1.vol : Nat), .int .i64 (gv s1), .int .i64 s1.c.cl, .int .i64 s1.c.nu, .int .i64 s1.c.kd, .int .i64 s1.c.h1, .int .i64 s1.c.h2, .int .i64 s1.c.g1, .int .i64 s1.c.g2, .string s1.c.nm, .string s1.c.ot, .int .i64 s1.c.m1, .int .i64 s1.c.m2, .int .i64 s1.c.m3, .string s1.c.mt, .bool s1.c.fo, .int .i64 s1.c.aa, .int .i64 s1.c.nn, .int .i64 s1.c.tt, .string s1.c.bb] 54))
  refine ThenS.mk ((HS.out _).2 ⟨HP2.out.box, HP2.out.rg⟩) ?_
  refine wpTail_more ?_
  obtain ⟨i0, hi, hz0, hz1, hz2⟩ := info_parts row54
  have HI := Lib.hid hi
  have HZZ := Lib.hid hz0
  have HSRC := Lib.hid (rq_src (c := 1) ⟨s1.vol, gv s1, s1.c⟩ HQ2.out)
  have hro := HP2.out.ro
  rw [HVO.out] at hro
  have HRO := Lib.hid hro
  have hB2 := Lib.hid (show base ≤ (w1.drew.alloc (.cells #[.int .i64 (s1.vol : Nat), .int .i64 (gv s1), .int .i64 s1.c.cl, .int .i64 s1.c.nu, .int .i64 s1.c.kd, .int .i64 s1.c.h1, .int .i64 s1.c.h2, .int .i64 s1.c.g1, .int .i64 s1.c.g2, .string s1.c.nm, .string s1.c.ot, .int .i64 s1.c.m1, .int .i64 s1.c.m2, .int .i64 s1.c.m3, .string s1.c.mt, .bool s1.c.fo, .int .i64 s1.c.aa, .int .i64 s1.c.nn, .int .i64 s1.c.tt, .string s1.c.bb] 54)).heap.size by rw [World.size_alloc]; show base ≤ w1.heap.size + 1; omega)
  clear hi hz0 hro
  go_wp2_with (at_builtin; refine wpList_append_at rfl (.tmp 9) (.tmp 29) 84 rfl base 54 i0 _ 20 192 Try.underlying84 HI.out HZZ.out hz1 hz2 rfl (by decide) _ _ _ rfl HRO.out _ _ _ _ rfl HSRC.out ?c2 ?c3 hB2.out ?_)
  case c2 => unfold maxLen; omega
  case c3 => omega
  intro v6 w6 own6 g6 at6
  obtain ⟨ad6, c6, rfl, hc6⟩ := own_shape own6
  rw [← HVO.out] at g6 at6
  have hob := own_box_ne HP2.out.ro HP2.out.box (by decide)
  have HX6 := Lib.hid (HP2.out.box.grown g6 (fun e => hob e.symm))
  have keep : ∀ (T : TypeId) (N : Nat) (u : Value) (k : Nat) (xs : List Value), T ≠ 54 → (w1.drew.alloc (.cells #[.int .i64 (s1.vol : Nat), .int .i64 (gv s1), .int .i64 s1.c.cl, .int .i64 s1.c.nu, .int .i64 s1.c.kd, .int .i64 s1.c.h1, .int .i64 s1.c.h2, .int .i64 s1.c.g1, .int .i64 s1.c.g2, .string s1.c.nm, .string s1.c.ot, .int .i64 s1.c.m1, .int .i64 s1.c.m2, .int .i64 s1.c.m3, .string s1.c.mt, .bool s1.c.fo, .int .i64 s1.c.aa, .int .i64 s1.c.nn, .int .i64 s1.c.tt, .string s1.c.bb] 54)).ownsRow base T N u k xs → w6.ownsRow base T N u k xs := fun T N u k xs hT ho => own_stays ho fun i hi => g6.block i (own_lt ho i hi) (fun e => own_ne ho HP2.out.ro hT i hi e.symm)
  have HRM := Lib.hid (keep _ _ _ _ _ (by decide) HP2.out.rm)
  have HRG := Lib.hid (keep _ _ _ _ _ (by decide) HP2.out.rg)
  have HRD := Lib.hid (keep _ _ _ _ _ (by decide) HP2.out.rd)
  have HO6 := Lib.hid own6
  have HT6 := Lib.hid (HT2.out.grown g6 (fun k hk => .inl (.inr (.inr (.inr (.inl hk))))))
  have HAT := Lib.hid at6
  clear own6 g6 at6 keep hob HRO HSRC
  go_wp2_with fail
  refine ThenS.mk ((HS.out _).2 ⟨HX6.out, HRG.out⟩) ?_
  have p27 : w6.cell? ⟨n, 27, none⟩ = some V.o := HX6.out.cell 27
  have f27 := HX6.out.frozen 27
  have hn6 := HX6.out.lt
  refine wpTail_more ?_
  go_wp2_with fail
  refine ThenS.mk ((HS.out _).2 ⟨HX6.out, HRG.out⟩) ?_
  refine wpTail_more ?_
  go_wp2_with fail
  refine ThenS.mk ((HS.out _).2 ⟨HX6.out, HRG.out⟩) ?_
  refine wpTail_last ?_
  go_wp2
  go_end0
  refine ⟨rfl, { V with o := .slice ad6 (s1.out.length + 1) c6 }, ⟨HX6.out.set 27 _, ?_, ?_, ?_, ?_, HP.out.dis, HP.out.hn⟩, HT6.out.setCell (.inl rfl) _, fun k hk => ?_⟩
  · exact own_stays HRM.out fun i hi => Below.heap_setCell _ _ _ _ (fun e => own_box_ne HRM.out HX6.out (by decide) (hi.trans (congrArg some e)))
  · exact own_stays HRG.out fun i hi => Below.heap_setCell _ _ _ _ (fun e => own_box_ne HRG.out HX6.out (by decide) (hi.trans (congrArg some e)))
  · have := own_stays HO6.out (w' := w6.setCell ⟨n, 27, none⟩ (.slice ad6 (s1.out.length + 1) c6)) fun i hi => Below.heap_setCell _ _ _ _ (fun e => own_box_ne HO6.out HX6.out (by decide) (hi.trans (congrArg some e)))
    show World.ownsRow _ base 54 20 _ (s1.out ++ [_]).length ((s1.out ++ [_]).flatMap ql)
    rw [List.length_append, List.flatMap_append, List.flatMap_singleton]
    exact this
  · exact own_stays HRD.out fun i hi => Below.heap_setCell _ _ _ _ (fun e => own_box_ne HRD.out HX6.out (by decide) (hi.trans (congrArg some e)))
  · rcases hk with h1 | h1 | h1 | h1 | h1
    · exact .inl (.inl h1)
    · exact .inl (.inr (.inl h1))
    · exact .inl (.inr (.inr (.inl h1)))
    · rcases HAT.out with h2 | h2
      · exact .inl (.inr (.inr (.inr (.inl (h2 ▸ h1)))))
      · right
        rw [h2] at h1
        have h3 := Option.some.inj h1
        omega
    · exact .inl (.inr (.inr (.inr (.inr h1))))
end Go.Proofs.Ytlkilkndjfcejaa
