/- porter: Start. Conditions: the client is in its bounds. -/
import Derived.Test.YtlkilkndjfcejaaPg
namespace Go.Proofs.Ytlkilkndjfcejaa
open Go Go.RowKit
set_option linter.unusedVariables false
set_option linter.unusedSimpArgs false
variable {w w' : World} {base n : Nat} {V V' : Vs} {s s' : St}

/-- the box alone is another. -/
theorem Pt.reBox (h : Pt w base n V s) (s' : St) (hbox : Box w' n 98 (pcs s' V)) (hk : ∀ k, k < w.heap.size → k ≠ n → w'.heap[k]? = w.heap[k]?) (h1 : s'.many = s.many) (h2 : s'.guess = s.guess) (h3 : s'.out = s.out) (h4 : s'.done = s.done) : Pt w' base n V s' := by
  have hs : ∀ (T : TypeId) (N : Nat) (v : Value) (k : Nat) (xs : List Value), T ≠ 98 → w.ownsRow base T N v k xs → w'.ownsRow base T N v k xs := fun T N v k xs hT ho => own_stays ho fun i hi => hk i (own_lt ho i hi) (fun e => own_box_ne ho h.box hT (hi.trans (congrArg some e)))
  refine ⟨hbox, ?_, ?_, ?_, ?_, h.dis, h.hn⟩
  · rw [h1]; exact hs _ _ _ _ _ (by decide) h.rm
  · rw [h2]; exact hs _ _ _ _ _ (by decide) h.rg
  · rw [h3]; exact hs _ _ _ _ _ (by decide) h.ro
  · rw [h4]; exact hs _ _ _ _ _ (by decide) h.rd
theorem start_cond (v : Int) (c : Cl) : startB s v c = !(s.busy || !s.done.isEmpty || !thereB s v || decide (c.kd < 1) || decide (11 < c.kd)) := by
  have e1 : decide (1 ≤ c.kd) = !decide (c.kd < 1) := by rw [← decide_not]; exact decide_eq_decide.2 (by omega)
  have e2 : decide (c.kd ≤ 11) = !decide (11 < c.kd) := by rw [← decide_not]; exact decide_eq_decide.2 (by omega)
  rw [startB, e1, e2]
  simp only [Bool.not_or, Bool.not_not]
set_option maxHeartbeats 4000000 in
theorem start_busy (v : Int) (c : Cl) (h : Pt w base n V s) (ho : Okay s) (hb : s.busy = true) : Calls Try.prog 11 #[.pointer (some ⟨n, 0, none⟩), .int .i64 v, .agg (cc c)] w fun e w' => e = .returned (.bool false) ∧ Below w.heap.size w w' := by
  have hn := h.box.lt
  have H := Lib.hid h
  have HO := Lib.hid ho
  have p5 : w.cell? ⟨n, 5, none⟩ = some (.bool s.busy) := (h.box).cell 5
  have p28 : w.cell? ⟨n, 28, none⟩ = some (V.d) := (h.box).cell 28
  obtain ⟨ad, cd, hvd, _⟩ := own_shape h.rd
  rw [hvd] at p28
  have hdl : s.done.length ≤ 1 := ho.fit.done
  have hX := Box.new w 52 (cc c)
  have x2 : (w.alloc (.cells #[.int .i64 c.cl, .int .i64 c.nu, .int .i64 c.kd, .int .i64 c.h1, .int .i64 c.h2, .int .i64 c.g1, .int .i64 c.g2, .string c.nm, .string c.ot, .int .i64 c.m1, .int .i64 c.m2, .int .i64 c.m3, .string c.mt, .bool c.fo, .int .i64 c.aa, .int .i64 c.nn, .int .i64 c.tt, .string c.bb] 52)).cell? ⟨w.heap.size, 2, none⟩ = some (.int .i64 c.kd) := hX.cell 2
  have HX := Lib.hid hX
  have B0 := Lib.hid ((Below.refl w.heap.size w).alloc (Nat.le_refl _) (.cells (cc c) 52))
  have C1 := Lib.hid (there_any v (h.alloc (.cells (cc c) 52)))
  rw [hb] at p5
  clear hb
  clear h ho hX hvd x2
  go_enter Try.func11, Try.ntmps11
  go_wp2_with fail
  go_ret
  exact ⟨rfl, B0.out⟩
set_option maxHeartbeats 4000000 in
theorem start_done (v : Int) (c : Cl) (h : Pt w base n V s) (ho : Okay s) (hb : s.busy = false) (hd : s.done ≠ []) : Calls Try.prog 11 #[.pointer (some ⟨n, 0, none⟩), .int .i64 v, .agg (cc c)] w fun e w' => e = .returned (.bool false) ∧ Below w.heap.size w w' := by
  have hn := h.box.lt
  have H := Lib.hid h
  have HO := Lib.hid ho
  have p5 : w.cell? ⟨n, 5, none⟩ = some (.bool s.busy) := (h.box).cell 5
  have p28 : w.cell? ⟨n, 28, none⟩ = some (V.d) := (h.box).cell 28
  obtain ⟨ad, cd, hvd, _⟩ := own_shape h.rd
  rw [hvd] at p28
  have hdl : s.done.length ≤ 1 := ho.fit.done
  have hX := Box.new w 52 (cc c)
  have x2 : (w.alloc (.cells #[.int .i64 c.cl, .int .i64 c.nu, .int .i64 c.kd, .int .i64 c.h1, .int .i64 c.h2, .int .i64 c.g1, .int .i64 c.g2, .string c.nm, .string c.ot, .int .i64 c.m1, .int .i64 c.m2, .int .i64 c.m3, .string c.mt, .bool c.fo, .int .i64 c.aa, .int .i64 c.nn, .int .i64 c.tt, .string c.bb] 52)).cell? ⟨w.heap.size, 2, none⟩ = some (.int .i64 c.kd) := hX.cell 2
  have HX := Lib.hid hX
  have B0 := Lib.hid ((Below.refl w.heap.size w).alloc (Nat.le_refl _) (.cells (cc c) 52))
  have C1 := Lib.hid (there_any v (h.alloc (.cells (cc c) 52)))
  have hd1 : (0 : Int) < (s.done.length : Int) := by have := List.length_pos_iff.2 hd; omega
  rw [hb] at p5
  clear hb
  clear h ho hX hvd x2
  go_enter Try.func11, Try.ntmps11
  go_wp2_with fail
  go_ret
  exact ⟨rfl, B0.out⟩
set_option maxHeartbeats 4000000 in
theorem start_there (v : Int) (c : Cl) (h : Pt w base n V s) (ho : Okay s) (hb : s.busy = false) (hd : s.done = []) (ht : thereB s v = false) : Calls Try.prog 11 #[.pointer (some ⟨n, 0, none⟩), .int .i64 v, .agg (cc c)] w fun e w' => e = .returned (.bool false) ∧ Below w.heap.size w w' := by
  have hn := h.box.lt
  have H := Lib.hid h
  have HO := Lib.hid ho
  have p5 : w.cell? ⟨n, 5, none⟩ = some (.bool s.busy) := (h.box).cell 5
  have p28 : w.cell? ⟨n, 28, none⟩ = some (V.d) := (h.box).cell 28
  obtain ⟨ad, cd, hvd, _⟩ := own_shape h.rd
  rw [hvd] at p28
  have hdl : s.done.length ≤ 1 := ho.fit.done
  have hX := Box.new w 52 (cc c)
  have x2 : (w.alloc (.cells #[.int .i64 c.cl, .int .i64 c.nu, .int .i64 c.kd, .int .i64 c.h1, .int .i64 c.h2, .int .i64 c.g1, .int .i64 c.g2, .string c.nm, .string c.ot, .int .i64 c.m1, .int .i64 c.m2, .int .i64 c.m3, .string c.mt, .bool c.fo, .int .i64 c.aa, .int .i64 c.nn, .int .i64 c.tt, .string c.bb] 52)).cell? ⟨w.heap.size, 2, none⟩ = some (.int .i64 c.kd) := hX.cell 2
  have HX := Lib.hid hX
  have B0 := Lib.hid ((Below.refl w.heap.size w).alloc (Nat.le_refl _) (.cells (cc c) 52))
  have C1 := Lib.hid (there_any v (h.alloc (.cells (cc c) 52)))
  rw [hb] at p5
  rw [hd] at p28
  rw [ht] at C1
  clear hb hd ht hdl
  clear h ho hX hvd x2
  go_enter Try.func11, Try.ntmps11
  go_wp2_with fail
  refine C1.out.mono ?_
  rintro e w1 ⟨rfl, rfl⟩
  go_wp2_with fail
  go_ret
  exact ⟨rfl, B0.out⟩
set_option maxHeartbeats 4000000 in
theorem start_low (v : Int) (c : Cl) (h : Pt w base n V s) (ho : Okay s) (hb : s.busy = false) (hd : s.done = []) (ht : thereB s v = true) (hk : c.kd < 1) : Calls Try.prog 11 #[.pointer (some ⟨n, 0, none⟩), .int .i64 v, .agg (cc c)] w fun e w' => e = .returned (.bool false) ∧ Below w.heap.size w w' := by
  have hn := h.box.lt
  have H := Lib.hid h
  have HO := Lib.hid ho
  have p5 : w.cell? ⟨n, 5, none⟩ = some (.bool s.busy) := (h.box).cell 5
  have p28 : w.cell? ⟨n, 28, none⟩ = some (V.d) := (h.box).cell 28
  obtain ⟨ad, cd, hvd, _⟩ := own_shape h.rd
  rw [hvd] at p28
  have hdl : s.done.length ≤ 1 := ho.fit.done
  have hX := Box.new w 52 (cc c)
  have x2 : (w.alloc (.cells #[.int .i64 c.cl, .int .i64 c.nu, .int .i64 c.kd, .int .i64 c.h1, .int .i64 c.h2, .int .i64 c.g1, .int .i64 c.g2, .string c.nm, .string c.ot, .int .i64 c.m1, .int .i64 c.m2, .int .i64 c.m3, .string c.mt, .bool c.fo, .int .i64 c.aa, .int .i64 c.nn, .int .i64 c.tt, .string c.bb] 52)).cell? ⟨w.heap.size, 2, none⟩ = some (.int .i64 c.kd) := hX.cell 2
  have HX := Lib.hid hX
  have B0 := Lib.hid ((Below.refl w.heap.size w).alloc (Nat.le_refl _) (.cells (cc c) 52))
  have C1 := Lib.hid (there_any v (h.alloc (.cells (cc c) 52)))
  rw [hb] at p5
  rw [hd] at p28
  rw [ht] at C1
  clear hb hd ht hdl
  clear h ho hX hvd x2
  go_enter Try.func11, Try.ntmps11
  go_wp2_with fail
  refine C1.out.mono ?_
  rintro e w1 ⟨rfl, rfl⟩
  have x2 : (w.alloc (.cells #[.int .i64 c.cl, .int .i64 c.nu, .int .i64 c.kd, .int .i64 c.h1, .int .i64 c.h2, .int .i64 c.g1, .int .i64 c.g2, .string c.nm, .string c.ot, .int .i64 c.m1, .int .i64 c.m2, .int .i64 c.m3, .string c.mt, .bool c.fo, .int .i64 c.aa, .int .i64 c.nn, .int .i64 c.tt, .string c.bb] 52)).cell? ⟨w.heap.size, 2, none⟩ = some (.int .i64 c.kd) := HX.out.cell 2
  go_wp2_with fail
  go_ret
  exact ⟨rfl, B0.out⟩
set_option maxHeartbeats 4000000 in
theorem start_high (v : Int) (c : Cl) (h : Pt w base n V s) (ho : Okay s) (hb : s.busy = false) (hd : s.done = []) (ht : thereB s v = true) (hk : 11 < c.kd) : Calls Try.prog 11 #[.pointer (some ⟨n, 0, none⟩), .int .i64 v, .agg (cc c)] w fun e w' => e = .returned (.bool false) ∧ Below w.heap.size w w' := by
  have hn := h.box.lt
  have H := Lib.hid h
  have HO := Lib.hid ho
  have p5 : w.cell? ⟨n, 5, none⟩ = some (.bool s.busy) := (h.box).cell 5
  have p28 : w.cell? ⟨n, 28, none⟩ = some (V.d) := (h.box).cell 28
  obtain ⟨ad, cd, hvd, _⟩ := own_shape h.rd
  rw [hvd] at p28
  have hdl : s.done.length ≤ 1 := ho.fit.done
  have hX := Box.new w 52 (cc c)
  have x2 : (w.alloc (.cells #[.int .i64 c.cl, .int .i64 c.nu, .int .i64 c.kd, .int .i64 c.h1, .int .i64 c.h2, .int .i64 c.g1, .int .i64 c.g2, .string c.nm, .string c.ot, .int .i64 c.m1, .int .i64 c.m2, .int .i64 c.m3, .string c.mt, .bool c.fo, .int .i64 c.aa, .int .i64 c.nn, .int .i64 c.tt, .string c.bb] 52)).cell? ⟨w.heap.size, 2, none⟩ = some (.int .i64 c.kd) := hX.cell 2
  have HX := Lib.hid hX
  have B0 := Lib.hid ((Below.refl w.heap.size w).alloc (Nat.le_refl _) (.cells (cc c) 52))
  have C1 := Lib.hid (there_any v (h.alloc (.cells (cc c) 52)))
  rw [hb] at p5
  rw [hd] at p28
  rw [ht] at C1
  have hk1 : ¬ c.kd < 1 := by omega
  clear hb hd ht hdl
  clear h ho hX hvd x2
  go_enter Try.func11, Try.ntmps11
  go_wp2_with fail
  refine C1.out.mono ?_
  rintro e w1 ⟨rfl, rfl⟩
  have x2 : (w.alloc (.cells #[.int .i64 c.cl, .int .i64 c.nu, .int .i64 c.kd, .int .i64 c.h1, .int .i64 c.h2, .int .i64 c.g1, .int .i64 c.g2, .string c.nm, .string c.ot, .int .i64 c.m1, .int .i64 c.m2, .int .i64 c.m3, .string c.mt, .bool c.fo, .int .i64 c.aa, .int .i64 c.nn, .int .i64 c.tt, .string c.bb] 52)).cell? ⟨w.heap.size, 2, none⟩ = some (.int .i64 c.kd) := HX.out.cell 2
  go_wp2_with fail
  go_ret
  exact ⟨rfl, B0.out⟩
set_option maxRecDepth 100000 in
set_option maxHeartbeats 4000000 in
theorem start_yes (v : Int) (c : Cl) (h : Pt w base n V s) (ho : Okay s) (hb0 : base ≤ w.heap.size) (hl : s.out.length ≤ 500) (hnu : s.nu < 100000) (hy : startB s v c = true) : Calls Try.prog 11 #[.pointer (some ⟨n, 0, none⟩), .int .i64 v, .agg (cc c)] w fun e w' => e = .returned (.bool true) ∧ Does w base n V (startS s v c) w' := by
  have hst : startS s v c = askS { s with nu := s.nu + 1, busy := true, vol := v.toNat, c := { c with cl := s.cl, nu := s.nu + 1 }, vain := 0 } := by rw [startS, if_pos hy]
  simp only [startB, Bool.and_eq_true, Bool.not_eq_true', List.isEmpty_iff, decide_eq_true_eq] at hy
  obtain ⟨⟨⟨⟨hb, hd⟩, ht⟩, hk1⟩, hk2⟩ := hy
  have hn := h.box.lt
  have H := Lib.hid h
  have HO := Lib.hid ho
  have p5 : w.cell? ⟨n, 5, none⟩ = some (.bool s.busy) := (h.box).cell 5
  have p28 : w.cell? ⟨n, 28, none⟩ = some (V.d) := (h.box).cell 28
  obtain ⟨ad, cd, hvd, _⟩ := own_shape h.rd
  rw [hvd] at p28
  have hdl : s.done.length ≤ 1 := ho.fit.done
  have hX := Box.new w 52 (cc c)
  have x2 : (w.alloc (.cells #[.int .i64 c.cl, .int .i64 c.nu, .int .i64 c.kd, .int .i64 c.h1, .int .i64 c.h2, .int .i64 c.g1, .int .i64 c.g2, .string c.nm, .string c.ot, .int .i64 c.m1, .int .i64 c.m2, .int .i64 c.m3, .string c.mt, .bool c.fo, .int .i64 c.aa, .int .i64 c.nn, .int .i64 c.tt, .string c.bb] 52)).cell? ⟨w.heap.size, 2, none⟩ = some (.int .i64 c.kd) := hX.cell 2
  have HX := Lib.hid hX
  have B0 := Lib.hid ((Below.refl w.heap.size w).alloc (Nat.le_refl _) (.cells (cc c) 52))
  have C1 := Lib.hid (there_any v (h.alloc (.cells (cc c) 52)))
  rw [hb] at p5
  rw [hd] at p28
  rw [ht] at C1
  have ht2 := ht
  simp only [thereB, Bool.and_eq_true, decide_eq_true_eq] at ht2
  obtain ⟨k, rfl⟩ : ∃ k : Nat, v = (k : Int) := ⟨v.toNat, by omega⟩
  obtain ⟨s2, hs2⟩ : ∃ s2 : St, s2 = { s with nu := s.nu + 1, busy := true, vol := k, c := { c with cl := s.cl, nu := s.nu + 1 }, vain := 0 } := ⟨_, rfl⟩
  have hst2 : startS s (k : Int) c = askS s2 := by rw [hst, hs2]; rfl
  have hkl : k < s.many.length := by omega
  have hf2 : Fit s2 := by
    rw [hs2]
    exact ⟨ho.fit.len, ho.fit.few, hkl, ho.fit.many, ho.fit.guess, by show (0 : Int) ≤ s.nu + 1; have := ho.fit.nu0; omega, by show s.nu + 1 ≤ 100000; omega, ho.fit.wait0, ho.fit.wait1, ho.fit.pa0, ho.fit.pa, by show (0 : Int) ≤ 0; omega, by show (0 : Int) ≤ 21; omega, ho.fit.done⟩
  have HF2 := Lib.hid hf2
  have HS2 := Lib.hid hs2
  have HL2 := Lib.hid (show s2.out.length ≤ 500 by rw [hs2]; exact hl)
  have hnu0 := ho.fit.nu0
  have k1 : ¬ c.kd < 1 := by omega
  have k2 : ¬ 11 < c.kd := by omega
  have p4 : w.cell? ⟨n, 4, none⟩ = some (.int .i64 s.nu) := h.box.cell 4
  have f4 := h.box.frozen 4
  have HP1 := Lib.hid ((show Box (w.setCell ⟨n, 4, none⟩ (.int .i64 (s.nu + 1))) n 98 #[.int .i64 s.cl, .int .i64 s.pa, V.m, V.g, .int .i64 (s.nu + 1), .bool s.busy, .int .i64 (s.vol : Nat), .int .i64 s.c.cl, .int .i64 s.c.nu, .int .i64 s.c.kd, .int .i64 s.c.h1, .int .i64 s.c.h2, .int .i64 s.c.g1, .int .i64 s.c.g2, .string s.c.nm, .string s.c.ot, .int .i64 s.c.m1, .int .i64 s.c.m2, .int .i64 s.c.m3, .string s.c.mt, .bool s.c.fo, .int .i64 s.c.aa, .int .i64 s.c.nn, .int .i64 s.c.tt, .string s.c.bb, .int .i64 s.wait, .int .i64 s.vain, V.o, V.d] from h.box.set 4 _).alloc (.cells #[.int .i64 c.cl, .int .i64 c.nu, .int .i64 c.kd, .int .i64 c.h1, .int .i64 c.h2, .int .i64 c.g1, .int .i64 c.g2, .string c.nm, .string c.ot, .int .i64 c.m1, .int .i64 c.m2, .int .i64 c.m3, .string c.mt, .bool c.fo, .int .i64 c.aa, .int .i64 c.nn, .int .i64 c.tt, .string c.bb] 52))
  have HOF := Lib.hid h.of_lt
  have hX1 := Box.new (w.setCell ⟨n, 4, none⟩ (.int .i64 (s.nu + 1))) 52 #[.int .i64 c.cl, .int .i64 c.nu, .int .i64 c.kd, .int .i64 c.h1, .int .i64 c.h2, .int .i64 c.g1, .int .i64 c.g2, .string c.nm, .string c.ot, .int .i64 c.m1, .int .i64 c.m2, .int .i64 c.m3, .string c.mt, .bool c.fo, .int .i64 c.aa, .int .i64 c.nn, .int .i64 c.tt, .string c.bb]
  rw [World.size_setCell] at hX1
  have HX1 := Lib.hid hX1
  have HT1 := Lib.hid (((Touch.refl (· = n) w).setCell (p := ⟨n, 4, none⟩) rfl (.int .i64 (s.nu + 1))).alloc (.cells #[.int .i64 c.cl, .int .i64 c.nu, .int .i64 c.kd, .int .i64 c.h1, .int .i64 c.h2, .int .i64 c.g1, .int .i64 c.g2, .string c.nm, .string c.ot, .int .i64 c.m1, .int .i64 c.m2, .int .i64 c.m3, .string c.mt, .bool c.fo, .int .i64 c.aa, .int .i64 c.nn, .int .i64 c.tt, .string c.bb] 52))
  rw [hst2]
  clear h ho hX hX1 hvd x2 hb hd ht ht2 hdl hs2 hf2 hst hst2 hk1 hk2
  go_enter Try.func11, Try.ntmps11
  go_wp2_with fail
  refine C1.out.mono ?_
  rintro e w1 ⟨rfl, rfl⟩
  have x2 : (w.alloc (.cells #[.int .i64 c.cl, .int .i64 c.nu, .int .i64 c.kd, .int .i64 c.h1, .int .i64 c.h2, .int .i64 c.g1, .int .i64 c.g2, .string c.nm, .string c.ot, .int .i64 c.m1, .int .i64 c.m2, .int .i64 c.m3, .string c.mt, .bool c.fo, .int .i64 c.aa, .int .i64 c.nn, .int .i64 c.tt, .string c.bb] 52)).cell? ⟨w.heap.size, 2, none⟩ = some (.int .i64 c.kd) := HX.out.cell 2
  go_wp2_with fail
  generalize (w.setCell ⟨n, 4, none⟩ (.int .i64 (s.nu + 1))).alloc (.cells #[.int .i64 c.cl, .int .i64 c.nu, .int .i64 c.kd, .int .i64 c.h1, .int .i64 c.h2, .int .i64 c.g1, .int .i64 c.g2, .string c.nm, .string c.ot, .int .i64 c.m1, .int .i64 c.m2, .int .i64 c.m3, .string c.mt, .bool c.fo, .int .i64 c.aa, .int .i64 c.nn, .int .i64 c.tt, .string c.bb] 52) = w2 at HP1 HX1 HT1 ⊢
  clear x2 p4 f4 HX C1 p5 p28 B0
  have hn2 := HP1.out.lt
  have hx2 := HX1.out.lt
  refine wp_region_steps (fun w' => Box w' n 98 #[.int .i64 s.cl, .int .i64 s.pa, V.m, V.g, .int .i64 (s.nu + 1), .bool s.busy, .int .i64 (s.vol : Nat), .int .i64 s.c.cl, .int .i64 s.c.nu, .int .i64 s.c.kd, .int .i64 s.c.h1, .int .i64 s.c.h2, .int .i64 s.c.g1, .int .i64 s.c.g2, .string s.c.nm, .string s.c.ot, .int .i64 s.c.m1, .int .i64 s.c.m2, .int .i64 s.c.m3, .string s.c.mt, .bool s.c.fo, .int .i64 s.c.aa, .int .i64 s.c.nn, .int .i64 s.c.tt, .string s.c.bb, .int .i64 s.wait, .int .i64 s.vain, V.o, V.d] ∧ w.heap.size < w'.heap.size) [(true, 0), (true, 1), (true, 2), (true, 3), (true, 4), (true, 5), (true, 6), (true, 7), (true, 8), (false, 9), (true, 10), (false, 11)] 11 _ _ (by kernel_rfl) rfl (by kernel_rfl) (by kernel_rfl) rfl (fun _ _ _ _ _ h => h) ⟨HP1.out.drew, hx2⟩ ?_
  intro S HS
  simp only [pickS, List.getElem?_cons_zero, List.getElem?_cons_succ]
  refine wpSteps_head ?_
  go_big_quiet_want; go_big_quiet_op; go_big_quiet_on
  refine wpQuiet_nil ?_
  refine wpSteps_head ?_
  go_big_quiet_want; apply quiet_value; (· (intro w' hw; have hB := ((HS.out _).1 hw).1; have hnl := hB.lt; go_simp; try rfl)); simp only [Act.put, List.setIfInBounds_toArray, List.set_cons_succ, List.set_cons_zero]; go_big_quiet_on
  refine wpQuiet_nil ?_
  refine wpSteps_head ?_
  go_big_quiet_want; apply quiet_value; (· (intro w' hw; go_simp; try rfl)); simp only [Act.put, List.setIfInBounds_toArray, List.set_cons_succ, List.set_cons_zero]; go_big_quiet_on
  refine wpQuiet_nil ?_
  refine wpSteps_head ?_
  go_big_quiet_want; apply quiet_value; (· (intro w' hw; have hB := ((HS.out _).1 hw).1; have hnl := hB.lt; have p0 : w'.cell? ⟨n, 0, none⟩ = some (.int .i64 s.cl) := hB.cell 0; go_simp; try rfl)); simp only [Act.put, List.setIfInBounds_toArray, List.set_cons_succ, List.set_cons_zero]; go_big_quiet_on
  refine wpQuiet_nil ?_
  refine wpSteps_head ?_
  go_big_quiet_want; go_big_quiet_op; go_big_quiet_on
  refine wpQuiet_nil ?_
  refine wpSteps_head ?_
  go_big_quiet_want; apply quiet_value; (· (intro w' hw; have hB := ((HS.out _).1 hw).1; have hnl := hB.lt; go_simp; try rfl)); simp only [Act.put, List.setIfInBounds_toArray, List.set_cons_succ, List.set_cons_zero]; go_big_quiet_on
  refine wpQuiet_nil ?_
  refine wpSteps_head ?_
  go_big_quiet_want; apply quiet_value; (· (intro w' hw; go_simp; try rfl)); simp only [Act.put, List.setIfInBounds_toArray, List.set_cons_succ, List.set_cons_zero]; go_big_quiet_on
  refine wpQuiet_nil ?_
  refine wpSteps_head ?_
  go_big_quiet_want; apply quiet_value; (· (intro w' hw; have hB := ((HS.out _).1 hw).1; have hnl := hB.lt; have p4 : w'.cell? ⟨n, 4, none⟩ = some (.int .i64 (s.nu + 1)) := hB.cell 4; go_simp; try rfl)); simp only [Act.put, List.setIfInBounds_toArray, List.set_cons_succ, List.set_cons_zero]; go_big_quiet_on
  refine wpQuiet_nil ?_
  refine wpSteps_head ?_
  go_big_quiet_want; apply quiet_value; (· (intro w' hw; have hcl := ((HS.out _).1 hw).2; go_simp; try rfl)); simp only [Act.put, List.setIfInBounds_toArray, List.set_cons_succ, List.set_cons_zero]; go_big_quiet_on
  refine wpQuiet_nil ?_
  refine wpSteps_more ?_
  have q0 : w2.cell? ⟨w.heap.size, 0, none⟩ = some (.int .i64 c.cl) := HX1.out.cell 0
  have qf := HX1.out.frozen 0
  go_wp2_with fail
  have HP2 := Lib.hid (HP1.out.set_other (p := ⟨w.heap.size, 0, none⟩) (by show n ≠ w.heap.size; omega) (.int .i64 s.cl)).drew
  have HX2 := Lib.hid (HX1.out.set 0 (.int .i64 s.cl)).drew
  have HT2 := Lib.hid (HT1.out.setCell_new (p := ⟨w.heap.size, 0, none⟩) (Nat.le_refl _) (.int .i64 s.cl)).drew
  refine ThenS.mk ((HS.out _).2 ⟨HP2.out, HX2.out.lt⟩) ?_
  clear q0 qf
  refine wpSteps_head ?_
  go_big_quiet_want; apply quiet_value; (· (intro w' hw; have hcl := ((HS.out _).1 hw).2; go_simp; try rfl)); simp only [Act.put, List.setIfInBounds_toArray, List.set_cons_succ, List.set_cons_zero]; go_big_quiet_on
  refine wpQuiet_nil ?_
  refine wpSteps_last ?_
  have hx3 := HX2.out.lt
  generalize (w2.setCell ⟨w.heap.size, 0, none⟩ (.int .i64 s.cl)).drew = w3 at HP2 HX2 HT2 hx3 ⊢
  have q1 : w3.cell? ⟨w.heap.size, 1, none⟩ = some (.int .i64 c.nu) := HX2.out.cell 1
  have qf1 := HX2.out.frozen 1
  go_wp2_with fail
  have HP3 := Lib.hid (HP2.out.set_other (p := ⟨w.heap.size, 1, none⟩) (by show n ≠ w.heap.size; omega) (.int .i64 (s.nu + 1)))
  have HX3 := Lib.hid (HX2.out.set 1 (.int .i64 (s.nu + 1)))
  have HT3 := Lib.hid (HT2.out.setCell_new (p := ⟨w.heap.size, 1, none⟩) (Nat.le_refl _) (.int .i64 (s.nu + 1)))
  generalize w3.setCell ⟨w.heap.size, 1, none⟩ (.int .i64 (s.nu + 1)) = w4 at HP3 HX3 HT3 ⊢
  have hn4 := HP3.out.lt
  have HX3 : Hid (Box w4 w.heap.size 52 #[.int .i64 s.cl, .int .i64 (s.nu + 1), .int .i64 c.kd, .int .i64 c.h1, .int .i64 c.h2, .int .i64 c.g1, .int .i64 c.g2, .string c.nm, .string c.ot, .int .i64 c.m1, .int .i64 c.m2, .int .i64 c.m3, .string c.mt, .bool c.fo, .int .i64 c.aa, .int .i64 c.nn, .int .i64 c.tt, .string c.bb]) := Lib.hid HX3.out
  clear q1 qf1 HP2 HX2 HT2 HP1 HX1 HT1 HS hx3
  refine wp_region_steps (fun w' => Box w' w.heap.size 52 #[.int .i64 s.cl, .int .i64 (s.nu + 1), .int .i64 c.kd, .int .i64 c.h1, .int .i64 c.h2, .int .i64 c.g1, .int .i64 c.g2, .string c.nm, .string c.ot, .int .i64 c.m1, .int .i64 c.m2, .int .i64 c.m3, .string c.mt, .bool c.fo, .int .i64 c.aa, .int .i64 c.nn, .int .i64 c.tt, .string c.bb] ∧ n < w'.heap.size) [(true, 0), (true, 1), (true, 2), (true, 3), (true, 4), (true, 5), (true, 6), (true, 7), (false, 8), (true, 9), (true, 10), (false, 11), (true, 12), (true, 13), (false, 14), (true, 15), (true, 16), (false, 17)] 17 _ _ (by kernel_rfl) rfl (by kernel_rfl) (by kernel_rfl) rfl (fun _ _ _ _ _ h => h) ⟨HX3.out.drew, hn4⟩ ?_
  intro S HS
  simp only [pickS, List.getElem?_cons_zero, List.getElem?_cons_succ]
  refine wpSteps_head ?_
  go_big_quiet_want; go_big_quiet_op; go_big_quiet_on
  refine wpQuiet_nil ?_
  refine wpSteps_head ?_
  go_big_quiet_want; go_big_quiet_op; go_big_quiet_on
  refine wpQuiet_nil ?_
  refine wpSteps_head ?_
  go_big_quiet_want; go_big_quiet_op; go_big_quiet_on
  refine wpQuiet_nil ?_
  refine wpSteps_head ?_
  go_big_quiet_want; go_big_quiet_op; go_big_quiet_on
  refine wpQuiet_nil ?_
  refine wpSteps_head ?_
  go_big_quiet_want; go_big_quiet_op; go_big_quiet_on
  refine wpQuiet_nil ?_
  refine wpSteps_head ?_
  go_big_quiet_want; apply quiet_value; (· (intro w' hw; have hB := ((HS.out _).1 hw).1; exact load_box_val 52 _ rfl w.heap.size 0 rfl hB [.int .i64 s.cl, .int .i64 (s.nu + 1), .int .i64 c.kd, .int .i64 c.h1, .int .i64 c.h2, .int .i64 c.g1, .int .i64 c.g2, .string c.nm, .string c.ot, .int .i64 c.m1, .int .i64 c.m2, .int .i64 c.m3, .string c.mt, .bool c.fo, .int .i64 c.aa, .int .i64 c.nn, .int .i64 c.tt, .string c.bb] rfl Try.underlying52 rfl (by kernel_rfl))); simp only [Act.put, List.setIfInBounds_toArray, List.set_cons_succ, List.set_cons_zero]; go_big_quiet_on
  refine wpQuiet_nil ?_
  refine wpSteps_head ?_
  go_big_quiet_want; apply quiet_value; (· (intro w' hw; have hnl := ((HS.out _).1 hw).2; go_simp; try rfl)); simp only [Act.put, List.setIfInBounds_toArray, List.set_cons_succ, List.set_cons_zero]; go_big_quiet_on
  refine wpQuiet_nil ?_
  refine wpSteps_head ?_
  go_big_quiet_want; apply quiet_value; (· (intro w' hw; go_simp; try rfl)); simp only [Act.put, List.setIfInBounds_toArray, List.set_cons_succ, List.set_cons_zero]; go_big_quiet_on
  refine wpQuiet_nil ?_
  refine wpSteps_more ?_
  have q5 : w4.cell? ⟨n, 5, none⟩ = some (.bool s.busy) := HP3.out.cell 5
  have qf5 := HP3.out.frozen 5
  go_wp2_with fail
  have HP4 := Lib.hid (HP3.out.set 5 (.bool true)).drew
  have HX4 := Lib.hid (HX3.out.set_other (p := ⟨n, 5, none⟩) (by show w.heap.size ≠ n; omega) (.bool true)).drew
  have HT4 := Lib.hid (HT3.out.setCell (p := ⟨n, 5, none⟩) rfl (.bool true)).drew
  refine ThenS.mk ((HS.out _).2 ⟨HX4.out, HP4.out.lt⟩) ?_
  clear q5 qf5
  refine wpSteps_head ?_
  go_big_quiet_want; apply quiet_value; (· (intro w' hw; have hnl := ((HS.out _).1 hw).2; go_simp; try rfl)); simp only [Act.put, List.setIfInBounds_toArray, List.set_cons_succ, List.set_cons_zero]; go_big_quiet_on
  refine wpQuiet_nil ?_
  refine wpSteps_head ?_
  go_big_quiet_want; apply quiet_value; (· (intro w' hw; go_simp; try rfl)); simp only [Act.put, List.setIfInBounds_toArray, List.set_cons_succ, List.set_cons_zero]; go_big_quiet_on
  refine wpQuiet_nil ?_
  refine wpSteps_more ?_
  generalize (w4.setCell ⟨n, 5, none⟩ (.bool true)).drew = w5 at HP4 HX4 HT4 ⊢
  have hn5 := HP4.out.lt
  have q6 : w5.cell? ⟨n, 6, none⟩ = some (.int .i64 (s.vol : Nat)) := HP4.out.cell 6
  have qf6 := HP4.out.frozen 6
  go_wp2_with fail
  have HP5 := Lib.hid (HP4.out.set 6 (.int .i64 (k : Nat)))
  have HX5 := Lib.hid (HX4.out.set_other (p := ⟨n, 6, none⟩) (by show w.heap.size ≠ n; omega) (.int .i64 (k : Nat)))
  have HT5 := Lib.hid (HT4.out.setCell (p := ⟨n, 6, none⟩) rfl (.int .i64 (k : Nat)))
  refine ThenS.mk ((HS.out _).2 ⟨HX5.out, HP5.out.lt⟩) ?_
  clear q6 qf6
  refine wpSteps_head ?_
  go_big_quiet_want; apply quiet_value; (· (intro w' hw; have hnl := ((HS.out _).1 hw).2; go_simp; try rfl)); simp only [Act.put, List.setIfInBounds_toArray, List.set_cons_succ, List.set_cons_zero]; go_big_quiet_on
  refine wpQuiet_nil ?_
  refine wpSteps_head ?_
  go_big_quiet_want; apply quiet_value; (· (intro w' hw; go_simp; try rfl)); simp only [Act.put, List.setIfInBounds_toArray, List.set_cons_succ, List.set_cons_zero]; go_big_quiet_on
  refine wpQuiet_nil ?_
  refine wpSteps_more ?_
  generalize w5.setCell ⟨n, 6, none⟩ (.int .i64 (k : Nat)) = w6 at HP5 HX5 HT5 ⊢
  refine wpList_store_box rfl 52 (.tmp 63) (.tmp 57) rfl rfl n 7 rfl [.int .i64 s.cl, .int .i64 (s.nu + 1), .int .i64 c.kd, .int .i64 c.h1, .int .i64 c.h2, .int .i64 c.g1, .int .i64 c.g2, .string c.nm, .string c.ot, .int .i64 c.m1, .int .i64 c.m2, .int .i64 c.m3, .string c.mt, .bool c.fo, .int .i64 c.aa, .int .i64 c.nn, .int .i64 c.tt, .string c.bb] rfl HP5.out #[.int .i64 s.cl, .int .i64 s.pa, V.m, V.g, .int .i64 (s.nu + 1), .bool true, .int .i64 (k : Nat), .int .i64 s.cl, .int .i64 (s.nu + 1), .int .i64 c.kd, .int .i64 c.h1, .int .i64 c.h2, .int .i64 c.g1, .int .i64 c.g2, .string c.nm, .string c.ot, .int .i64 c.m1, .int .i64 c.m2, .int .i64 c.m3, .string c.mt, .bool c.fo, .int .i64 c.aa, .int .i64 c.nn, .int .i64 c.tt, .string c.bb, .int .i64 s.wait, .int .i64 s.vain, V.o, V.d] rfl (by kernel_rfl) rfl rfl ?_
  refine wpList_nil ?_
  have HP6 := Lib.hid (HP5.out.setRow #[.int .i64 s.cl, .int .i64 s.pa, V.m, V.g, .int .i64 (s.nu + 1), .bool true, .int .i64 (k : Nat), .int .i64 s.cl, .int .i64 (s.nu + 1), .int .i64 c.kd, .int .i64 c.h1, .int .i64 c.h2, .int .i64 c.g1, .int .i64 c.g2, .string c.nm, .string c.ot, .int .i64 c.m1, .int .i64 c.m2, .int .i64 c.m3, .string c.mt, .bool c.fo, .int .i64 c.aa, .int .i64 c.nn, .int .i64 c.tt, .string c.bb, .int .i64 s.wait, .int .i64 s.vain, V.o, V.d])
  have HX6 := Lib.hid (HX5.out.setRow_other #[.int .i64 s.cl, .int .i64 s.pa, V.m, V.g, .int .i64 (s.nu + 1), .bool true, .int .i64 (k : Nat), .int .i64 s.cl, .int .i64 (s.nu + 1), .int .i64 c.kd, .int .i64 c.h1, .int .i64 c.h2, .int .i64 c.g1, .int .i64 c.g2, .string c.nm, .string c.ot, .int .i64 c.m1, .int .i64 c.m2, .int .i64 c.m3, .string c.mt, .bool c.fo, .int .i64 c.aa, .int .i64 c.nn, .int .i64 c.tt, .string c.bb, .int .i64 s.wait, .int .i64 s.vain, V.o, V.d] (show w.heap.size ≠ n by omega))
  have HT6 := Lib.hid (HT5.out.setRow (g := n) (.inl rfl) #[.int .i64 s.cl, .int .i64 s.pa, V.m, V.g, .int .i64 (s.nu + 1), .bool true, .int .i64 (k : Nat), .int .i64 s.cl, .int .i64 (s.nu + 1), .int .i64 c.kd, .int .i64 c.h1, .int .i64 c.h2, .int .i64 c.g1, .int .i64 c.g2, .string c.nm, .string c.ot, .int .i64 c.m1, .int .i64 c.m2, .int .i64 c.m3, .string c.mt, .bool c.fo, .int .i64 c.aa, .int .i64 c.nn, .int .i64 c.tt, .string c.bb, .int .i64 s.wait, .int .i64 s.vain, V.o, V.d])
  refine ThenS.mk ((HS.out _).2 ⟨HX6.out, HP6.out.lt⟩) ?_
  refine wpSteps_head ?_
  go_big_quiet_want; apply quiet_value; (· (intro w' hw; have hnl := ((HS.out _).1 hw).2; go_simp; try rfl)); simp only [Act.put, List.setIfInBounds_toArray, List.set_cons_succ, List.set_cons_zero]; go_big_quiet_on
  refine wpQuiet_nil ?_
  refine wpSteps_head ?_
  go_big_quiet_want; apply quiet_value; (· (intro w' hw; go_simp; try rfl)); simp only [Act.put, List.setIfInBounds_toArray, List.set_cons_succ, List.set_cons_zero]; go_big_quiet_on
  refine wpQuiet_nil ?_
  refine wpSteps_last ?_
  generalize w6.setRow n #[.int .i64 s.cl, .int .i64 s.pa, V.m, V.g, .int .i64 (s.nu + 1), .bool true, .int .i64 (k : Nat), .int .i64 s.cl, .int .i64 (s.nu + 1), .int .i64 c.kd, .int .i64 c.h1, .int .i64 c.h2, .int .i64 c.g1, .int .i64 c.g2, .string c.nm, .string c.ot, .int .i64 c.m1, .int .i64 c.m2, .int .i64 c.m3, .string c.mt, .bool c.fo, .int .i64 c.aa, .int .i64 c.nn, .int .i64 c.tt, .string c.bb, .int .i64 s.wait, .int .i64 s.vain, V.o, V.d] = w7 at HP6 HX6 HT6 ⊢
  have hn7 := HP6.out.lt
  have q26 : w7.cell? ⟨n, 26, none⟩ = some (.int .i64 s.vain) := HP6.out.cell 26
  have qf26 := HP6.out.frozen 26
  go_wp2_with fail
  have HP7 := Lib.hid (show Box (w7.setCell ⟨n, 26, none⟩ (.int .i64 0)) n 98 #[.int .i64 s.cl, .int .i64 s.pa, V.m, V.g, .int .i64 (s.nu + 1), .bool true, .int .i64 (k : Nat), .int .i64 s.cl, .int .i64 (s.nu + 1), .int .i64 c.kd, .int .i64 c.h1, .int .i64 c.h2, .int .i64 c.g1, .int .i64 c.g2, .string c.nm, .string c.ot, .int .i64 c.m1, .int .i64 c.m2, .int .i64 c.m3, .string c.mt, .bool c.fo, .int .i64 c.aa, .int .i64 c.nn, .int .i64 c.tt, .string c.bb, .int .i64 s.wait, .int .i64 0, V.o, V.d] from HP6.out.set 26 (.int .i64 0))
  have HT7 := Lib.hid (HT6.out.setCell (p := ⟨n, 26, none⟩) rfl (.int .i64 0))
  generalize w7.setCell ⟨n, 26, none⟩ (.int .i64 0) = w8 at HP7 HT7 ⊢
  have HPT := Lib.hid (show Pt w8 base n V s2 from by
    refine H.out.reBox s2 (by rw [HS2.out]; exact HP7.out) (fun k hk hne => ?_) (by rw [HS2.out]) (by rw [HS2.out]) (by rw [HS2.out]) (by rw [HS2.out])
    exact HT7.out.block k hk hne)
  refine (ask_any HPT.out HF2.out (Nat.le_trans hb0 HT7.out.size) HL2.out).mono ?_
  rintro e w9 ⟨rfl, V2, hP9, hG9⟩
  have HG := Lib.hid hG9
  have HP9 := Lib.hid hP9
  clear hG9 hP9
  go_wp2
  go_ret
  exact ⟨rfl, V2, HP9.out, Goes.trans ⟨HT7.out.mono (fun k _ h => .inl h), fun _ hk => .inl hk⟩ HG.out⟩

theorem start_any (v : Int) (c : Cl) (h : Pt w base n V s) (ho : Okay s) (hb0 : base ≤ w.heap.size) (hl : s.out.length ≤ 500) (hnu : s.nu < 100000) : Calls Try.prog 11 #[.pointer (some ⟨n, 0, none⟩), .int .i64 v, .agg (cc c)] w fun e w' => e = .returned (.bool (startB s v c)) ∧ Does w base n V (startS s v c) w' := by
  cases hy : startB s v c
  · have hs : startS s v c = s := by rw [startS, hy]; rfl
    rw [hs]
    have key : Calls Try.prog 11 #[.pointer (some ⟨n, 0, none⟩), .int .i64 v, .agg (cc c)] w fun e w' => e = .returned (.bool false) ∧ Below w.heap.size w w' := by
      cases hb : s.busy
      · by_cases hd : s.done = []
        · cases ht : thereB s v
          · exact start_there v c h ho hb hd ht
          · by_cases h1 : c.kd < 1
            · exact start_low v c h ho hb hd ht h1
            · by_cases h2 : 11 < c.kd
              · exact start_high v c h ho hb hd ht h2
              · exfalso
                rw [start_cond, hb, hd, ht] at hy
                simp [h1, h2] at hy
        · exact start_done v c h ho hb hd
      · exact start_busy v c h ho hb
    exact key.mono fun _ _ ⟨he, hb⟩ => ⟨he, Does.same h hb⟩
  · exact start_yes v c h ho hb0 hl hnu hy
end Go.Proofs.Ytlkilkndjfcejaa
