/- A call on a disk, as the law makes it. Conditions: the disk lies in the call's own memory, and is good. -/
import Derived.Test.YtpgoacemjpobjaaQg
namespace Go.Proofs.Ytpgoacemjpobjaa
open Go Go.RowKit
set_option linter.unusedVariables false
set_option linter.unusedSimpArgs false
variable {w w' : World} {base n : Nat} {V V' : Vs} {D : Dk}

structure Two (w w0 : World) (c2 : Array Value) : Prop where
  o : Box w0 w.heap.size 46 c2
  a : Box w0 (w.heap.size + 1) 48 #[.string ⟨#[]⟩, .int .i64 0]
  b : Below w.heap.size w w0
  s : w.heap.size + 1 < w0.heap.size
theorem drew_two (y : World) (p q : Addr) (u v : Value) : ((y.setCell p u).setCell q v).drew = (y.drew.setCell p u).setCell q v := rfl
theorem Moves.drew {S S' : Nat → Prop} (h : Moves w w' S S') : Moves w w'.drew S S' := ⟨h.touch.drew, h.lies⟩
theorem Two.new (w : World) (c2 : Array Value) : Two w ((w.alloc (.cells c2 46)).alloc (.cells #[.string ⟨#[]⟩, .int .i64 0] 48)) c2 := by
  refine ⟨(Box.new w 46 c2).alloc _, ?_, ((Below.refl w.heap.size w).alloc (Nat.le_refl _) _).alloc (by simp) _, by simp⟩
  have := Box.new (w.alloc (.cells c2 46)) 48 #[.string ⟨#[]⟩, .int .i64 0]; simpa using this
theorem Two.moves {w0 w1 : World} {c2 : Array Value} {S S' : Nat → Prop} (h : Two w w0 c2) (hS : ∀ k, S k → k < w.heap.size) (g : Moves w0 w1 S S') : Box w1 (w.heap.size + 1) 48 #[.string ⟨#[]⟩, .int .i64 0] ∧ Box w1 w.heap.size 46 c2 :=
  ⟨h.a.touch g.touch (fun hs => by have := hS _ hs; omega), h.o.touch g.touch (fun hs => by have := hS _ hs; omega)⟩

set_option maxHeartbeats 1000000 in
theorem does_0 {ad : Option Addr} {cap : Nat} (o : Op4) (h : Dsk w base n V D) (hb : base ≤ w.heap.size) (hg : Good D) (hwl : D.wait.length ≤ 100000) (hB : Bys w ad o.b.length o.b) (hkd : o.kd = 0) : Calls Try.prog 18 #[.pointer (some ⟨n, 0, none⟩), ov o ad cap] w (Dids w base n V (stepA o D)) := by
  have hs : stepA o D = (wrD D o.n o.b, [], wrE D o.n o.b.length) := step_0 o hkd hg
  obtain ⟨r, hr⟩ : ∃ r, r = stepA o D := ⟨_, rfl⟩
  rw [← hr]
  have HRR := Lib.hid (hr.trans hs)
  obtain ⟨len, hlen⟩ : ∃ len, len = o.b.length := ⟨_, rfl⟩
  have hov : ov o ad cap = .agg #[.int .i64 0, .int .i64 o.n, .int .i64 o.tear, .slice ad len cap] := by rw [hlen, ← hkd]; rfl
  rw [hov]
  have HT := Lib.hid (Two.new w #[.int .i64 0, .int .i64 o.n, .int .i64 o.tear, .slice ad len cap])
  have hBl : Bys w ad len o.b := by rw [hlen]; exact hB
  have HB := Lib.hid (hBl.bel HT.out.b)
  have HD := Lib.hid (h.bel HT.out.b)
  have HLT := Lib.hid h.of_lt
  have HG := Lib.hid hg
  have HWL := Lib.hid hwl
  have HBS := Lib.hid (Nat.le_trans hb HT.out.b.size)
  have HRR := Lib.hid (show r = (wrD D o.n o.b, [], wrE D o.n len) by rw [hlen]; exact HRR.out)
  clear hkd
  clear h hg hwl hs hov hr hb hB hBl hlen
  go_enter Try.func18, Try.ntmps18
  go_wp2_with fail
  generalize (w.alloc (.cells #[.int .i64 0, .int .i64 o.n, .int .i64 o.tear, .slice ad len cap] 46)).alloc (.cells #[.string ⟨#[]⟩, .int .i64 0] 48) = w0 at HT HB HD HBS ⊢
  refine (write_any o.n o.b ad len cap HD.out HBS.out HG.out HB.out (by have := HWL.out; omega)).mono ?_
  rintro e w1 ⟨rfl, V1, hD1, hG1⟩
  have HM := Lib.hid hG1.moves
  have HD1 := Lib.hid hD1
  have HA := Lib.hid (HT.out.moves HLT.out hG1.moves).1
  clear hD1 hG1
  have a0 : w1.cell? ⟨w.heap.size + 1, 0, none⟩ = some (.string ⟨#[]⟩) := HA.out.cell 0
  have a1 : w1.cell? ⟨w.heap.size + 1, 1, none⟩ = some (.int .i64 0) := HA.out.cell 1
  have b0 := HA.out.frozen 0
  have b1 := HA.out.frozen 1
  go_wp2
  rw [HRR.out]
  exact does_fin HLT.out HT.out.b HT.out.s HM.out HD1.out HA.out rfl rfl rfl fun w' hD hM => ⟨_, _, rfl, hD, hM⟩

set_option maxHeartbeats 1000000 in
theorem does_2 {ad : Option Addr} {cap : Nat} (o : Op4) (h : Dsk w base n V D) (hb : base ≤ w.heap.size) (hg : Good D) (hwl : D.wait.length ≤ 100000) (hB : Bys w ad o.b.length o.b) (hkd : o.kd = 2) : Calls Try.prog 18 #[.pointer (some ⟨n, 0, none⟩), ov o ad cap] w (Dids w base n V (stepA o D)) := by
  have hs : stepA o D = (syncD D, [], syncE D) := step_2 o hkd
  obtain ⟨r, hr⟩ : ∃ r, r = stepA o D := ⟨_, rfl⟩
  rw [← hr]
  have HRR := Lib.hid (hr.trans hs)
  obtain ⟨len, hlen⟩ : ∃ len, len = o.b.length := ⟨_, rfl⟩
  have hov : ov o ad cap = .agg #[.int .i64 2, .int .i64 o.n, .int .i64 o.tear, .slice ad len cap] := by rw [hlen, ← hkd]; rfl
  rw [hov]
  have HT := Lib.hid (Two.new w #[.int .i64 2, .int .i64 o.n, .int .i64 o.tear, .slice ad len cap])
  have hBl : Bys w ad len o.b := by rw [hlen]; exact hB
  have HB := Lib.hid (hBl.bel HT.out.b)
  have HD := Lib.hid (h.bel HT.out.b)
  have HLT := Lib.hid h.of_lt
  have HG := Lib.hid hg
  have HWL := Lib.hid hwl
  have HBS := Lib.hid (Nat.le_trans hb HT.out.b.size)
  clear hkd
  clear h hg hwl hs hov hr hb hB hBl hlen
  go_enter Try.func18, Try.ntmps18
  go_wp2_with fail
  generalize (w.alloc (.cells #[.int .i64 2, .int .i64 o.n, .int .i64 o.tear, .slice ad len cap] 46)).alloc (.cells #[.string ⟨#[]⟩, .int .i64 0] 48) = w0 at HT HB HD HBS ⊢
  refine (sync_any HD.out HBS.out HG.out (by have := HWL.out; omega)).mono ?_
  rintro e w1 ⟨rfl, V1, hD1, hG1⟩
  have HM := Lib.hid hG1.moves
  have HD1 := Lib.hid hD1
  have HA := Lib.hid (HT.out.moves HLT.out hG1.moves).1
  clear hD1 hG1
  have a0 : w1.cell? ⟨w.heap.size + 1, 0, none⟩ = some (.string ⟨#[]⟩) := HA.out.cell 0
  have a1 : w1.cell? ⟨w.heap.size + 1, 1, none⟩ = some (.int .i64 0) := HA.out.cell 1
  have b0 := HA.out.frozen 0
  have b1 := HA.out.frozen 1
  go_wp2
  rw [HRR.out]
  exact does_fin HLT.out HT.out.b HT.out.s HM.out HD1.out HA.out rfl rfl rfl fun w' hD hM => ⟨_, _, rfl, hD, hM⟩

set_option maxHeartbeats 1000000 in
theorem does_3 {ad : Option Addr} {cap : Nat} (o : Op4) (h : Dsk w base n V D) (hb : base ≤ w.heap.size) (hg : Good D) (hwl : D.wait.length ≤ 100000) (hB : Bys w ad o.b.length o.b) (hkd : o.kd = 3) : Calls Try.prog 18 #[.pointer (some ⟨n, 0, none⟩), ov o ad cap] w (Dids w base n V (stepA o D)) := by
  have hs : stepA o D = (armD D o.n, [], 0) := by unfold stepA; rw [if_pos hkd]
  obtain ⟨r, hr⟩ : ∃ r, r = stepA o D := ⟨_, rfl⟩
  rw [← hr]
  have HRR := Lib.hid (hr.trans hs)
  obtain ⟨len, hlen⟩ : ∃ len, len = o.b.length := ⟨_, rfl⟩
  have hov : ov o ad cap = .agg #[.int .i64 3, .int .i64 o.n, .int .i64 o.tear, .slice ad len cap] := by rw [hlen, ← hkd]; rfl
  rw [hov]
  have HT := Lib.hid (Two.new w #[.int .i64 3, .int .i64 o.n, .int .i64 o.tear, .slice ad len cap])
  have hBl : Bys w ad len o.b := by rw [hlen]; exact hB
  have HB := Lib.hid (hBl.bel HT.out.b)
  have HD := Lib.hid (h.bel HT.out.b)
  have HLT := Lib.hid h.of_lt
  have HG := Lib.hid hg
  have HWL := Lib.hid hwl
  have HBS := Lib.hid (Nat.le_trans hb HT.out.b.size)
  clear hkd
  clear h hg hwl hs hov hr hb hB hBl hlen
  go_enter Try.func18, Try.ntmps18
  go_wp2_with fail
  generalize (w.alloc (.cells #[.int .i64 3, .int .i64 o.n, .int .i64 o.tear, .slice ad len cap] 46)).alloc (.cells #[.string ⟨#[]⟩, .int .i64 0] 48) = w0 at HT HB HD HBS ⊢
  refine (arm_any o.n HD.out).mono ?_
  rintro e w1 ⟨rfl, hD1, hG1⟩
  have HM := Lib.hid hG1.moves
  have HD1 := Lib.hid hD1
  have HA := Lib.hid (HT.out.moves HLT.out hG1.moves).1
  clear hD1 hG1
  have a0 : w1.cell? ⟨w.heap.size + 1, 0, none⟩ = some (.string ⟨#[]⟩) := HA.out.cell 0
  have a1 : w1.cell? ⟨w.heap.size + 1, 1, none⟩ = some (.int .i64 0) := HA.out.cell 1
  have b0 := HA.out.frozen 0
  have b1 := HA.out.frozen 1
  go_wp2
  rw [HRR.out]
  exact does_fin HLT.out HT.out.b HT.out.s HM.out HD1.out HA.out rfl rfl rfl fun w' hD hM => ⟨_, _, rfl, hD, hM⟩

set_option maxHeartbeats 1000000 in
theorem does_4 {ad : Option Addr} {cap : Nat} (o : Op4) (h : Dsk w base n V D) (hb : base ≤ w.heap.size) (hg : Good D) (hwl : D.wait.length ≤ 100000) (hB : Bys w ad o.b.length o.b) (hkd : o.kd = 4) : Calls Try.prog 18 #[.pointer (some ⟨n, 0, none⟩), ov o ad cap] w (Dids w base n V (stepA o D)) := by
  have hs : stepA o D = (crashD D o.n o.tear, [], 0) := by unfold stepA; rw [if_neg (by omega), if_pos hkd]
  obtain ⟨r, hr⟩ : ∃ r, r = stepA o D := ⟨_, rfl⟩
  rw [← hr]
  have HRR := Lib.hid (hr.trans hs)
  obtain ⟨len, hlen⟩ : ∃ len, len = o.b.length := ⟨_, rfl⟩
  have hov : ov o ad cap = .agg #[.int .i64 4, .int .i64 o.n, .int .i64 o.tear, .slice ad len cap] := by rw [hlen, ← hkd]; rfl
  rw [hov]
  have HT := Lib.hid (Two.new w #[.int .i64 4, .int .i64 o.n, .int .i64 o.tear, .slice ad len cap])
  have hBl : Bys w ad len o.b := by rw [hlen]; exact hB
  have HB := Lib.hid (hBl.bel HT.out.b)
  have HD := Lib.hid (h.bel HT.out.b)
  have HLT := Lib.hid h.of_lt
  have HG := Lib.hid hg
  have HWL := Lib.hid hwl
  have HBS := Lib.hid (Nat.le_trans hb HT.out.b.size)
  clear hkd
  clear h hg hwl hs hov hr hb hB hBl hlen
  go_enter Try.func18, Try.ntmps18
  go_wp2_with fail
  generalize (w.alloc (.cells #[.int .i64 4, .int .i64 o.n, .int .i64 o.tear, .slice ad len cap] 46)).alloc (.cells #[.string ⟨#[]⟩, .int .i64 0] 48) = w0 at HT HB HD HBS ⊢
  refine (crash_any o.n o.tear HD.out HBS.out HG.out (by have := HWL.out; omega)).mono ?_
  rintro e w1 ⟨n', V1, rfl, hD1, hB1⟩
  have HM : Hid (Moves w0 w1 (Of n V) (Of n' V1)) := ⟨Touch.of_below hB1, fun k hk => .inr (hD1.of_ge k hk)⟩
  have HD1 := Lib.hid (hD1.rebase HBS.out)
  have HA := Lib.hid (HT.out.moves HLT.out HM.out).1
  clear hD1 hB1
  have a0 : w1.cell? ⟨w.heap.size + 1, 0, none⟩ = some (.string ⟨#[]⟩) := HA.out.cell 0
  have a1 : w1.cell? ⟨w.heap.size + 1, 1, none⟩ = some (.int .i64 0) := HA.out.cell 1
  have b0 := HA.out.frozen 0
  have b1 := HA.out.frozen 1
  go_wp2
  rw [HRR.out]
  exact does_fin HLT.out HT.out.b HT.out.s HM.out HD1.out HA.out rfl rfl rfl fun w' hD hM => ⟨_, _, rfl, hD, hM⟩

set_option maxHeartbeats 1000000 in
theorem does_x {ad : Option Addr} {cap : Nat} (o : Op4) (h : Dsk w base n V D) (hb : base ≤ w.heap.size) (hg : Good D) (hwl : D.wait.length ≤ 100000) (hB : Bys w ad o.b.length o.b) (hx : o.kd < 0 ∨ 4 < o.kd) : Calls Try.prog 18 #[.pointer (some ⟨n, 0, none⟩), ov o ad cap] w (Dids w base n V (stepA o D)) := by
  have hs : stepA o D = (D, [], 0) := step_x o hx
  obtain ⟨r, hr⟩ : ∃ r, r = stepA o D := ⟨_, rfl⟩
  rw [← hr]
  have HRR := Lib.hid (hr.trans hs)
  obtain ⟨len, hlen⟩ : ∃ len, len = o.b.length := ⟨_, rfl⟩
  have hov : ov o ad cap = .agg #[.int .i64 o.kd, .int .i64 o.n, .int .i64 o.tear, .slice ad len cap] := by rw [hlen]; rfl
  rw [hov]
  have HT := Lib.hid (Two.new w #[.int .i64 o.kd, .int .i64 o.n, .int .i64 o.tear, .slice ad len cap])
  have hBl : Bys w ad len o.b := by rw [hlen]; exact hB
  have HB := Lib.hid (hBl.bel HT.out.b)
  have HD := Lib.hid (h.bel HT.out.b)
  have HLT := Lib.hid h.of_lt
  have HG := Lib.hid hg
  have HWL := Lib.hid hwl
  have HBS := Lib.hid (Nat.le_trans hb HT.out.b.size)
  have q0 : (o.kd == 0) = false := by simp; omega
  have q1 : (o.kd == 1) = false := by simp; omega
  have q2 : (o.kd == 2) = false := by simp; omega
  have q3 : (o.kd == 3) = false := by simp; omega
  have q4 : (o.kd == 4) = false := by simp; omega
  clear hx
  clear h hg hwl hs hov hr hb hB hBl hlen
  go_enter Try.func18, Try.ntmps18
  go_wp2_with fail
  generalize (w.alloc (.cells #[.int .i64 o.kd, .int .i64 o.n, .int .i64 o.tear, .slice ad len cap] 46)).alloc (.cells #[.string ⟨#[]⟩, .int .i64 0] 48) = w0 at HT HB HD HBS ⊢
  rw [HRR.out]
  exact ret_t48 Try.results18 rfl rfl rfl HT.out.a ⟨_, _, rfl, HD.out, Moves.of_below HT.out.b⟩

set_option maxHeartbeats 1000000 in
theorem does_1 {ad : Option Addr} {cap : Nat} (o : Op4) (h : Dsk w base n V D) (hb : base ≤ w.heap.size) (hg : Good D) (hwl : D.wait.length ≤ 100000) (hB : Bys w ad o.b.length o.b) (hkd : o.kd = 1) : Calls Try.prog 18 #[.pointer (some ⟨n, 0, none⟩), ov o ad cap] w (Dids w base n V (stepA o D)) := by
  have hs : stepA o D = if mayE D o.n ≠ 0 then (D, [], mayE D o.n) else (D, D.now.getD o.n.toNat [], 0) := step_1 o hkd hg
  obtain ⟨r, hr⟩ : ∃ r, r = stepA o D := ⟨_, rfl⟩
  rw [← hr]
  have HRR := Lib.hid (hr.trans hs)
  obtain ⟨len, hlen⟩ : ∃ len, len = o.b.length := ⟨_, rfl⟩
  have hov : ov o ad cap = .agg #[.int .i64 1, .int .i64 o.n, .int .i64 o.tear, .slice ad len cap] := by rw [hlen, ← hkd]; rfl
  rw [hov]
  have HT := Lib.hid (Two.new w #[.int .i64 1, .int .i64 o.n, .int .i64 o.tear, .slice ad len cap])
  have hBl : Bys w ad len o.b := by rw [hlen]; exact hB
  have HB := Lib.hid (hBl.bel HT.out.b)
  have HD := Lib.hid (h.bel HT.out.b)
  have HLT := Lib.hid h.of_lt
  have HG := Lib.hid hg
  have HWL := Lib.hid hwl
  have HBS := Lib.hid (Nat.le_trans hb HT.out.b.size)
  clear hkd
  clear h hg hwl hs hov hr hb hB hBl hlen
  go_enter Try.func18, Try.ntmps18
  go_wp2_with fail
  generalize (w.alloc (.cells #[.int .i64 1, .int .i64 o.n, .int .i64 o.tear, .slice ad len cap] 46)).alloc (.cells #[.string ⟨#[]⟩, .int .i64 0] 48) = w0 at HT HB HD HBS ⊢
  refine (read_any o.n HD.out HG.out).mono ?_
  rintro e w1 (⟨hm, rfl, rfl⟩ | ⟨hm, s, hs, rfl, rfl⟩)
  · have HRR := Lib.hid (show r = (D, [], mayE D o.n) by rw [HRR.out, if_pos hm])
    have HM := Lib.hid (Moves.refl w0 (Of n V))
    have HD1 := Lib.hid HD.out
    have HA := Lib.hid HT.out.a
    have HV : Hid (Bys w0.drew none 0 []) := ⟨rfl, by decide, .inl rfl⟩
    clear hm
    go_wp2_with fail
    refine wp_region_steps (fun w' => Bys w' none 0 []) [(true, 0), (true, 1), (true, 2), (true, 3), (true, 4), (false, 5), (false, 6)] 6 _ _ (by kernel_rfl) rfl (by kernel_rfl) (by kernel_rfl) rfl (fun _ _ _ _ _ h => h) HV.out ?_
    intro S HS
    simp only [pickS, List.getElem?_cons_zero, List.getElem?_cons_succ]
    refine wpSteps_head ?_
    go_big_quiet_want; go_big_quiet_op; go_big_quiet_on
    refine wpQuiet_nil ?_
    refine wpSteps_head ?_
    go_big_quiet_want; go_big_quiet_op; go_big_quiet_on
    refine wpQuiet_nil ?_
    refine wpSteps_head ?_
    go_big_quiet_want; apply quiet_value; (· (intro w' hw; have hcv := conv_any ((HS.out _).1 hw) 0; unfold st at hcv; go_simp; try rfl)); simp only [Act.put, List.setIfInBounds_toArray, List.set_cons_succ, List.set_cons_zero]; go_big_quiet_on
    refine wpQuiet_nil ?_
    refine wpSteps_head ?_
    go_big_quiet_want; go_big_quiet_op; go_big_quiet_on
    refine wpQuiet_nil ?_
    refine wpSteps_head ?_
    go_big_quiet_want; apply quiet_value; (· (intro w' hw; go_simp; try rfl)); simp only [Act.put, List.setIfInBounds_toArray, List.set_cons_succ, List.set_cons_zero]; go_big_quiet_on
    refine wpQuiet_nil ?_
    refine wpSteps_more ?_
    go_wp2_with fail
    refine ThenS.mk ((HS.out _).2 HV.out) ?_
    refine wpSteps_last ?_
    have a0 : w0.cell? ⟨w.heap.size + 1, 0, none⟩ = some (.string ⟨#[]⟩) := HA.out.cell 0
    have a1 : w0.cell? ⟨w.heap.size + 1, 1, none⟩ = some (.int .i64 0) := HA.out.cell 1
    have b0 := HA.out.frozen 0
    have b1 := HA.out.frozen 1
    go_wp2
    rw [HRR.out, drew_two]
    exact does_fin HLT.out HT.out.b HT.out.s HM.out.drew HD1.out.drew HA.out.drew rfl rfl rfl fun w' hD hM => ⟨_, _, rfl, hD, hM⟩
  · have hgd : D.now.getD o.n.toNat [] = s := by rw [List.getD_eq_getElem?_getD, hs]; rfl
    have HRR := Lib.hid (show r = (D, s, 0) by rw [HRR.out, if_neg (fun h => h hm), hgd])
    have hbl : Below w0.heap.size w0 (w0.alloc (.cells (bc s).toArray 63)) := (Below.refl _ _).alloc (Nat.le_refl _) _
    have HM : Hid (Moves w0 (w0.alloc (.cells (bc s).toArray 63)) (Of n V) (Of n V)) := Moves.of_below hbl
    have HD1 := Lib.hid (HD.out.bel hbl)
    have HA := Lib.hid (HT.out.moves HLT.out HM.out).1
    have HV : Hid (Bys (w0.alloc (.cells (bc s).toArray 63)).drew (some ⟨w0.heap.size, 0, none⟩) 64 s) := bys_new w0 s 63 (HG.out.fulln s (List.mem_of_getElem? hs))
    clear hm hs hgd hbl
    generalize hm0 : w0.heap.size = m at HV ⊢
    clear hm0
    go_wp2_with fail
    generalize w0.alloc (.cells (bc s).toArray 63) = w1 at HM HD1 HA HV ⊢
    refine wp_region_steps (fun w' => Bys w' (some ⟨m, 0, none⟩) 64 s) [(true, 0), (true, 1), (true, 2), (true, 3), (true, 4), (false, 5), (false, 6)] 6 _ _ (by kernel_rfl) rfl (by kernel_rfl) (by kernel_rfl) rfl (fun _ _ _ _ _ h => h) HV.out ?_
    intro S HS
    simp only [pickS, List.getElem?_cons_zero, List.getElem?_cons_succ]
    refine wpSteps_head ?_
    go_big_quiet_want; go_big_quiet_op; go_big_quiet_on
    refine wpQuiet_nil ?_
    refine wpSteps_head ?_
    go_big_quiet_want; go_big_quiet_op; go_big_quiet_on
    refine wpQuiet_nil ?_
    refine wpSteps_head ?_
    go_big_quiet_want; apply quiet_value; (· (intro w' hw; have hcv := conv_any ((HS.out _).1 hw) 64; unfold st at hcv; go_simp; try rfl)); simp only [Act.put, List.setIfInBounds_toArray, List.set_cons_succ, List.set_cons_zero]; go_big_quiet_on
    refine wpQuiet_nil ?_
    refine wpSteps_head ?_
    go_big_quiet_want; go_big_quiet_op; go_big_quiet_on
    refine wpQuiet_nil ?_
    refine wpSteps_head ?_
    go_big_quiet_want; apply quiet_value; (· (intro w' hw; go_simp; try rfl)); simp only [Act.put, List.setIfInBounds_toArray, List.set_cons_succ, List.set_cons_zero]; go_big_quiet_on
    refine wpQuiet_nil ?_
    refine wpSteps_more ?_
    go_wp2_with fail
    refine ThenS.mk ((HS.out _).2 HV.out) ?_
    refine wpSteps_last ?_
    have a0 : w1.cell? ⟨w.heap.size + 1, 0, none⟩ = some (.string ⟨#[]⟩) := HA.out.cell 0
    have a1 : w1.cell? ⟨w.heap.size + 1, 1, none⟩ = some (.int .i64 0) := HA.out.cell 1
    have b0 := HA.out.frozen 0
    have b1 := HA.out.frozen 1
    go_wp2
    rw [HRR.out, drew_two]
    exact does_fin HLT.out HT.out.b HT.out.s HM.out.drew HD1.out.drew HA.out.drew rfl rfl rfl fun w' hD hM => ⟨_, _, rfl, hD, hM⟩
/-- a call on a disk. -/
theorem does_any {ad : Option Addr} {cap : Nat} (o : Op4) (h : Dsk w base n V D) (hb : base ≤ w.heap.size) (hg : Good D) (hwl : D.wait.length ≤ 100000) (hB : Bys w ad o.b.length o.b) : Calls Try.prog 18 #[.pointer (some ⟨n, 0, none⟩), ov o ad cap] w (Dids w base n V (stepA o D)) := by
  by_cases h0 : o.kd = 0
  · exact does_0 o h hb hg hwl hB h0
  by_cases h1 : o.kd = 1
  · exact does_1 o h hb hg hwl hB h1
  by_cases h2 : o.kd = 2
  · exact does_2 o h hb hg hwl hB h2
  by_cases h3 : o.kd = 3
  · exact does_3 o h hb hg hwl hB h3
  by_cases h4 : o.kd = 4
  · exact does_4 o h hb hg hwl hB h4
  · exact does_x o h hb hg hwl hB (by omega)
end Go.Proofs.Ytpgoacemjpobjaa
