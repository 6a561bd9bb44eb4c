/- The walk of PlatterLasts. Conditions: the script lies in memory. -/
import Derived.Test.YtpgoacemjpobjaaQp
namespace Go.Proofs.Ytpgoacemjpobjaa
open Go Go.RowKit Go.ChangeShapes Go.WideShapes Go.ChangeAt
set_option linter.unusedVariables false
set_option linter.unusedSimpArgs false

section
variable {w w' : World} {base n : Nat} {V V' : Vs} {D : Dk}
def Dids1 (w : World) (base n : Nat) (V : Vs) (r : Dk × Sec × Int) (e : Ending) (w' : World) : Prop :=
  ∃ V', e = .returned (.tuple #[.pointer (some ⟨n, 0, none⟩), .agg #[st r.2.1, .int .i64 r.2.2]]) ∧ Dsk w' base n V' r.1 ∧ Moves w w' (Of n V) (Of n V')
set_option maxHeartbeats 1000000 in
theorem does1_0 {ad : Option Addr} {cap : Nat} (o : Op4) (h : Dsk w base n V D) (hb : base ≤ w.heap.size) (hg : Good D) (hwl : D.wait.length ≤ 100000) (hB : Bys w ad o.b.length o.b) (hkd : o.kd = 0) : Calls Try.prog 18 #[.pointer (some ⟨n, 0, none⟩), ov o ad cap] w (Dids1 w base n V (stepA o D)) := by
  have hs : stepA o D = (wrD D o.n o.b, [], wrE D o.n o.b.length) := step_0 o hkd hg
  obtain ⟨r, hr⟩ : ∃ r, r = stepA o D := ⟨_, rfl⟩
  rw [← hr]
  have HRR := Lib.hid (hr.trans hs)
  obtain ⟨len, hlen⟩ : ∃ len, len = o.b.length := ⟨_, rfl⟩
  have hov : ov o ad cap = .agg #[.int .i64 0, .int .i64 o.n, .int .i64 o.tear, .slice ad len cap] := by rw [hlen, ← hkd]; rfl
  rw [hov]
  have HT := Lib.hid (Two.new w #[.int .i64 0, .int .i64 o.n, .int .i64 o.tear, .slice ad len cap])
  have hBl : Bys w ad len o.b := by rw [hlen]; exact hB
  have HB := Lib.hid (hBl.bel HT.out.b)
  have HD := Lib.hid (h.bel HT.out.b)
  have HLT := Lib.hid h.of_lt
  have HG := Lib.hid hg
  have HWL := Lib.hid hwl
  have HBS := Lib.hid (Nat.le_trans hb HT.out.b.size)
  have HRR := Lib.hid (show r = (wrD D o.n o.b, [], wrE D o.n len) by rw [hlen]; exact HRR.out)
  clear hkd
  clear h hg hwl hs hov hr hb hB hBl hlen
  go_enter Try.func18, Try.ntmps18
  go_wp2_with fail
  generalize (w.alloc (.cells #[.int .i64 0, .int .i64 o.n, .int .i64 o.tear, .slice ad len cap] 46)).alloc (.cells #[.string ⟨#[]⟩, .int .i64 0] 48) = w0 at HT HB HD HBS ⊢
  refine (write_any o.n o.b ad len cap HD.out HBS.out HG.out HB.out (by have := HWL.out; omega)).mono ?_
  rintro e w1 ⟨rfl, V1, hD1, hG1⟩
  have HM := Lib.hid hG1.moves
  have HD1 := Lib.hid hD1
  have HA := Lib.hid (HT.out.moves HLT.out hG1.moves).1
  clear hD1 hG1
  have a0 : w1.cell? ⟨w.heap.size + 1, 0, none⟩ = some (.string ⟨#[]⟩) := HA.out.cell 0
  have a1 : w1.cell? ⟨w.heap.size + 1, 1, none⟩ = some (.int .i64 0) := HA.out.cell 1
  have b0 := HA.out.frozen 0
  have b1 := HA.out.frozen 1
  go_wp2
  rw [HRR.out]
  exact does_fin HLT.out HT.out.b HT.out.s HM.out HD1.out HA.out rfl rfl rfl fun w' hD hM => ⟨_, rfl, hD, hM⟩
set_option maxHeartbeats 1000000 in
theorem does1_2 {ad : Option Addr} {cap : Nat} (o : Op4) (h : Dsk w base n V D) (hb : base ≤ w.heap.size) (hg : Good D) (hwl : D.wait.length ≤ 100000) (hB : Bys w ad o.b.length o.b) (hkd : o.kd = 2) : Calls Try.prog 18 #[.pointer (some ⟨n, 0, none⟩), ov o ad cap] w (Dids1 w base n V (stepA o D)) := by
  have hs : stepA o D = (syncD D, [], syncE D) := step_2 o hkd
  obtain ⟨r, hr⟩ : ∃ r, r = stepA o D := ⟨_, rfl⟩
  rw [← hr]
  have HRR := Lib.hid (hr.trans hs)
  obtain ⟨len, hlen⟩ : ∃ len, len = o.b.length := ⟨_, rfl⟩
  have hov : ov o ad cap = .agg #[.int .i64 2, .int .i64 o.n, .int .i64 o.tear, .slice ad len cap] := by rw [hlen, ← hkd]; rfl
  rw [hov]
  have HT := Lib.hid (Two.new w #[.int .i64 2, .int .i64 o.n, .int .i64 o.tear, .slice ad len cap])
  have hBl : Bys w ad len o.b := by rw [hlen]; exact hB
  have HB := Lib.hid (hBl.bel HT.out.b)
  have HD := Lib.hid (h.bel HT.out.b)
  have HLT := Lib.hid h.of_lt
  have HG := Lib.hid hg
  have HWL := Lib.hid hwl
  have HBS := Lib.hid (Nat.le_trans hb HT.out.b.size)
  clear hkd
  clear h hg hwl hs hov hr hb hB hBl hlen
  go_enter Try.func18, Try.ntmps18
  go_wp2_with fail
  generalize (w.alloc (.cells #[.int .i64 2, .int .i64 o.n, .int .i64 o.tear, .slice ad len cap] 46)).alloc (.cells #[.string ⟨#[]⟩, .int .i64 0] 48) = w0 at HT HB HD HBS ⊢
  refine (sync_any HD.out HBS.out HG.out (by have := HWL.out; omega)).mono ?_
  rintro e w1 ⟨rfl, V1, hD1, hG1⟩
  have HM := Lib.hid hG1.moves
  have HD1 := Lib.hid hD1
  have HA := Lib.hid (HT.out.moves HLT.out hG1.moves).1
  clear hD1 hG1
  have a0 : w1.cell? ⟨w.heap.size + 1, 0, none⟩ = some (.string ⟨#[]⟩) := HA.out.cell 0
  have a1 : w1.cell? ⟨w.heap.size + 1, 1, none⟩ = some (.int .i64 0) := HA.out.cell 1
  have b0 := HA.out.frozen 0
  have b1 := HA.out.frozen 1
  go_wp2
  rw [HRR.out]
  exact does_fin HLT.out HT.out.b HT.out.s HM.out HD1.out HA.out rfl rfl rfl fun w' hD hM => ⟨_, rfl, hD, hM⟩
set_option maxHeartbeats 1000000 in
theorem does1_3 {ad : Option Addr} {cap : Nat} (o : Op4) (h : Dsk w base n V D) (hb : base ≤ w.heap.size) (hg : Good D) (hwl : D.wait.length ≤ 100000) (hB : Bys w ad o.b.length o.b) (hkd : o.kd = 3) : Calls Try.prog 18 #[.pointer (some ⟨n, 0, none⟩), ov o ad cap] w (Dids1 w base n V (stepA o D)) := by
  have hs : stepA o D = (armD D o.n, [], 0) := by unfold stepA; rw [if_pos hkd]
  obtain ⟨r, hr⟩ : ∃ r, r = stepA o D := ⟨_, rfl⟩
  rw [← hr]
  have HRR := Lib.hid (hr.trans hs)
  obtain ⟨len, hlen⟩ : ∃ len, len = o.b.length := ⟨_, rfl⟩
  have hov : ov o ad cap = .agg #[.int .i64 3, .int .i64 o.n, .int .i64 o.tear, .slice ad len cap] := by rw [hlen, ← hkd]; rfl
  rw [hov]
  have HT := Lib.hid (Two.new w #[.int .i64 3, .int .i64 o.n, .int .i64 o.tear, .slice ad len cap])
  have hBl : Bys w ad len o.b := by rw [hlen]; exact hB
  have HB := Lib.hid (hBl.bel HT.out.b)
  have HD := Lib.hid (h.bel HT.out.b)
  have HLT := Lib.hid h.of_lt
  have HG := Lib.hid hg
  have HWL := Lib.hid hwl
  have HBS := Lib.hid (Nat.le_trans hb HT.out.b.size)
  clear hkd
  clear h hg hwl hs hov hr hb hB hBl hlen
  go_enter Try.func18, Try.ntmps18
  go_wp2_with fail
  generalize (w.alloc (.cells #[.int .i64 3, .int .i64 o.n, .int .i64 o.tear, .slice ad len cap] 46)).alloc (.cells #[.string ⟨#[]⟩, .int .i64 0] 48) = w0 at HT HB HD HBS ⊢
  refine (arm_any o.n HD.out).mono ?_
  rintro e w1 ⟨rfl, hD1, hG1⟩
  have HM := Lib.hid hG1.moves
  have HD1 := Lib.hid hD1
  have HA := Lib.hid (HT.out.moves HLT.out hG1.moves).1
  clear hD1 hG1
  have a0 : w1.cell? ⟨w.heap.size + 1, 0, none⟩ = some (.string ⟨#[]⟩) := HA.out.cell 0
  have a1 : w1.cell? ⟨w.heap.size + 1, 1, none⟩ = some (.int .i64 0) := HA.out.cell 1
  have b0 := HA.out.frozen 0
  have b1 := HA.out.frozen 1
  go_wp2
  rw [HRR.out]
  exact does_fin HLT.out HT.out.b HT.out.s HM.out HD1.out HA.out rfl rfl rfl fun w' hD hM => ⟨_, rfl, hD, hM⟩
set_option maxHeartbeats 1000000 in
theorem does1_x {ad : Option Addr} {cap : Nat} (o : Op4) (h : Dsk w base n V D) (hb : base ≤ w.heap.size) (hg : Good D) (hwl : D.wait.length ≤ 100000) (hB : Bys w ad o.b.length o.b) (hx : o.kd < 0 ∨ 4 < o.kd) : Calls Try.prog 18 #[.pointer (some ⟨n, 0, none⟩), ov o ad cap] w (Dids1 w base n V (stepA o D)) := by
  have hs : stepA o D = (D, [], 0) := step_x o hx
  obtain ⟨r, hr⟩ : ∃ r, r = stepA o D := ⟨_, rfl⟩
  rw [← hr]
  have HRR := Lib.hid (hr.trans hs)
  obtain ⟨len, hlen⟩ : ∃ len, len = o.b.length := ⟨_, rfl⟩
  have hov : ov o ad cap = .agg #[.int .i64 o.kd, .int .i64 o.n, .int .i64 o.tear, .slice ad len cap] := by rw [hlen]; rfl
  rw [hov]
  have HT := Lib.hid (Two.new w #[.int .i64 o.kd, .int .i64 o.n, .int .i64 o.tear, .slice ad len cap])
  have hBl : Bys w ad len o.b := by rw [hlen]; exact hB
  have HB := Lib.hid (hBl.bel HT.out.b)
  have HD := Lib.hid (h.bel HT.out.b)
  have HLT := Lib.hid h.of_lt
  have HG := Lib.hid hg
  have HWL := Lib.hid hwl
  have HBS := Lib.hid (Nat.le_trans hb HT.out.b.size)
  have q0 : (o.kd == 0) = false := by simp; omega
  have q1 : (o.kd == 1) = false := by simp; omega
  have q2 : (o.kd == 2) = false := by simp; omega
  have q3 : (o.kd == 3) = false := by simp; omega
  have q4 : (o.kd == 4) = false := by simp; omega
  clear hx
  clear h hg hwl hs hov hr hb hB hBl hlen
  go_enter Try.func18, Try.ntmps18
  go_wp2_with fail
  generalize (w.alloc (.cells #[.int .i64 o.kd, .int .i64 o.n, .int .i64 o.tear, .slice ad len cap] 46)).alloc (.cells #[.string ⟨#[]⟩, .int .i64 0] 48) = w0 at HT HB HD HBS ⊢
  rw [HRR.out]
  exact ret_t48 Try.results18 rfl rfl rfl HT.out.a ⟨_, rfl, HD.out, Moves.of_below HT.out.b⟩
set_option maxHeartbeats 1000000 in
theorem does1_1 {ad : Option Addr} {cap : Nat} (o : Op4) (h : Dsk w base n V D) (hb : base ≤ w.heap.size) (hg : Good D) (hwl : D.wait.length ≤ 100000) (hB : Bys w ad o.b.length o.b) (hkd : o.kd = 1) : Calls Try.prog 18 #[.pointer (some ⟨n, 0, none⟩), ov o ad cap] w (Dids1 w base n V (stepA o D)) := by
  have hs : stepA o D = if mayE D o.n ≠ 0 then (D, [], mayE D o.n) else (D, D.now.getD o.n.toNat [], 0) := step_1 o hkd hg
  obtain ⟨r, hr⟩ : ∃ r, r = stepA o D := ⟨_, rfl⟩
  rw [← hr]
  have HRR := Lib.hid (hr.trans hs)
  obtain ⟨len, hlen⟩ : ∃ len, len = o.b.length := ⟨_, rfl⟩
  have hov : ov o ad cap = .agg #[.int .i64 1, .int .i64 o.n, .int .i64 o.tear, .slice ad len cap] := by rw [hlen, ← hkd]; rfl
  rw [hov]
  have HT := Lib.hid (Two.new w #[.int .i64 1, .int .i64 o.n, .int .i64 o.tear, .slice ad len cap])
  have hBl : Bys w ad len o.b := by rw [hlen]; exact hB
  have HB := Lib.hid (hBl.bel HT.out.b)
  have HD := Lib.hid (h.bel HT.out.b)
  have HLT := Lib.hid h.of_lt
  have HG := Lib.hid hg
  have HWL := Lib.hid hwl
  have HBS := Lib.hid (Nat.le_trans hb HT.out.b.size)
  clear hkd
  clear h hg hwl hs hov hr hb hB hBl hlen
  go_enter Try.func18, Try.ntmps18
  go_wp2_with fail
  generalize (w.alloc (.cells #[.int .i64 1, .int .i64 o.n, .int .i64 o.tear, .slice ad len cap] 46)).alloc (.cells #[.string ⟨#[]⟩, .int .i64 0] 48) = w0 at HT HB HD HBS ⊢
  refine (read_any o.n HD.out HG.out).mono ?_
  rintro e w1 (⟨hm, rfl, rfl⟩ | ⟨hm, s, hs, rfl, rfl⟩)
  · have HRR := Lib.hid (show r = (D, [], mayE D o.n) by rw [HRR.out, if_pos hm])
    have HM := Lib.hid (Moves.refl w0 (Of n V))
    have HD1 := Lib.hid HD.out
    have HA := Lib.hid HT.out.a
    have HV : Hid (Bys w0.drew none 0 []) := ⟨rfl, by decide, .inl rfl⟩
    clear hm
    go_wp2_with fail
    refine wp_region_steps (fun w' => Bys w' none 0 []) [(true, 0), (true, 1), (true, 2), (true, 3), (true, 4), (false, 5), (false, 6)] 6 _ _ (by kernel_rfl) rfl (by kernel_rfl) (by kernel_rfl) rfl (fun _ _ _ _ _ h => h) HV.out ?_
    intro S HS
    simp only [pickS, List.getElem?_cons_zero, List.getElem?_cons_succ]
    refine wpSteps_head ?_
    go_big_quiet_want; go_big_quiet_op; go_big_quiet_on
    refine wpQuiet_nil ?_
    refine wpSteps_head ?_
    go_big_quiet_want; go_big_quiet_op; go_big_quiet_on
    refine wpQuiet_nil ?_
    refine wpSteps_head ?_
    go_big_quiet_want; apply quiet_value; (· (intro w' hw; have hcv := conv_any ((HS.out _).1 hw) 0; unfold st at hcv; go_simp; try rfl)); simp only [Act.put, List.setIfInBounds_toArray, List.set_cons_succ, List.set_cons_zero]; go_big_quiet_on
    refine wpQuiet_nil ?_
    refine wpSteps_head ?_
    go_big_quiet_want; go_big_quiet_op; go_big_quiet_on
    refine wpQuiet_nil ?_
    refine wpSteps_head ?_
    go_big_quiet_want; apply quiet_value; (· (intro w' hw; go_simp; try rfl)); simp only [Act.put, List.setIfInBounds_toArray, List.set_cons_succ, List.set_cons_zero]; go_big_quiet_on
    refine wpQuiet_nil ?_
    refine wpSteps_more ?_
    go_wp2_with fail
    refine ThenS.mk ((HS.out _).2 HV.out) ?_
    refine wpSteps_last ?_
    have a0 : w0.cell? ⟨w.heap.size + 1, 0, none⟩ = some (.string ⟨#[]⟩) := HA.out.cell 0
    have a1 : w0.cell? ⟨w.heap.size + 1, 1, none⟩ = some (.int .i64 0) := HA.out.cell 1
    have b0 := HA.out.frozen 0
    have b1 := HA.out.frozen 1
    go_wp2
    rw [HRR.out, drew_two]
    exact does_fin HLT.out HT.out.b HT.out.s HM.out.drew HD1.out.drew HA.out.drew rfl rfl rfl fun w' hD hM => ⟨_, rfl, hD, hM⟩
  · have hgd : D.now.getD o.n.toNat [] = s := by rw [List.getD_eq_getElem?_getD, hs]; rfl
    have HRR := Lib.hid (show r = (D, s, 0) by rw [HRR.out, if_neg (fun h => h hm), hgd])
    have hbl : Below w0.heap.size w0 (w0.alloc (.cells (bc s).toArray 63)) := (Below.refl _ _).alloc (Nat.le_refl _) _
    have HM : Hid (Moves w0 (w0.alloc (.cells (bc s).toArray 63)) (Of n V) (Of n V)) := Moves.of_below hbl
    have HD1 := Lib.hid (HD.out.bel hbl)
    have HA := Lib.hid (HT.out.moves HLT.out HM.out).1
    have HV : Hid (Bys (w0.alloc (.cells (bc s).toArray 63)).drew (some ⟨w0.heap.size, 0, none⟩) 64 s) := bys_new w0 s 63 (HG.out.fulln s (List.mem_of_getElem? hs))
    clear hm hs hgd hbl
    generalize hm0 : w0.heap.size = m at HV ⊢
    clear hm0
    go_wp2_with fail
    generalize w0.alloc (.cells (bc s).toArray 63) = w1 at HM HD1 HA HV ⊢
    refine wp_region_steps (fun w' => Bys w' (some ⟨m, 0, none⟩) 64 s) [(true, 0), (true, 1), (true, 2), (true, 3), (true, 4), (false, 5), (false, 6)] 6 _ _ (by kernel_rfl) rfl (by kernel_rfl) (by kernel_rfl) rfl (fun _ _ _ _ _ h => h) HV.out ?_
    intro S HS
    simp only [pickS, List.getElem?_cons_zero, List.getElem?_cons_succ]
    refine wpSteps_head ?_
    go_big_quiet_want; go_big_quiet_op; go_big_quiet_on
    refine wpQuiet_nil ?_
    refine wpSteps_head ?_
    go_big_quiet_want; go_big_quiet_op; go_big_quiet_on
    refine wpQuiet_nil ?_
    refine wpSteps_head ?_
    go_big_quiet_want; apply quiet_value; (· (intro w' hw; have hcv := conv_any ((HS.out _).1 hw) 64; unfold st at hcv; go_simp; try rfl)); simp only [Act.put, List.setIfInBounds_toArray, List.set_cons_succ, List.set_cons_zero]; go_big_quiet_on
    refine wpQuiet_nil ?_
    refine wpSteps_head ?_
    go_big_quiet_want; go_big_quiet_op; go_big_quiet_on
    refine wpQuiet_nil ?_
    refine wpSteps_head ?_
    go_big_quiet_want; apply quiet_value; (· (intro w' hw; go_simp; try rfl)); simp only [Act.put, List.setIfInBounds_toArray, List.set_cons_succ, List.set_cons_zero]; go_big_quiet_on
    refine wpQuiet_nil ?_
    refine wpSteps_more ?_
    go_wp2_with fail
    refine ThenS.mk ((HS.out _).2 HV.out) ?_
    refine wpSteps_last ?_
    have a0 : w1.cell? ⟨w.heap.size + 1, 0, none⟩ = some (.string ⟨#[]⟩) := HA.out.cell 0
    have a1 : w1.cell? ⟨w.heap.size + 1, 1, none⟩ = some (.int .i64 0) := HA.out.cell 1
    have b0 := HA.out.frozen 0
    have b1 := HA.out.frozen 1
    go_wp2
    rw [HRR.out, drew_two]
    exact does_fin HLT.out HT.out.b HT.out.s HM.out.drew HD1.out.drew HA.out.drew rfl rfl rfl fun w' hD hM => ⟨_, rfl, hD, hM⟩


/-- a call on a disk that stays that disk. -/
theorem does1_any {ad : Option Addr} {cap : Nat} (o : Op4) (h4 : o.kd ≠ 4) (h : Dsk w base n V D) (hb : base ≤ w.heap.size) (hg : Good D) (hwl : D.wait.length ≤ 100000) (hB : Bys w ad o.b.length o.b) : Calls Try.prog 18 #[.pointer (some ⟨n, 0, none⟩), ov o ad cap] w (Dids1 w base n V (stepA o D)) := by
  by_cases h0 : o.kd = 0
  · exact does1_0 o h hb hg hwl hB h0
  by_cases h1 : o.kd = 1
  · exact does1_1 o h hb hg hwl hB h1
  by_cases h2 : o.kd = 2
  · exact does1_2 o h hb hg hwl hB h2
  by_cases h3 : o.kd = 3
  · exact does1_3 o h hb hg hwl hB h3
  · exact does1_x o h hb hg hwl hB (by omega)
end
/-! what was synced -/
theorem laid_other (i : Nat) : ∀ (ws : List Wr) (l : List Sec), (∀ x ∈ ws, x.1 ≠ i) → (laid l ws)[i]? = l[i]? := by
  intro ws
  induction ws with
  | nil => intro l _; rfl
  | cons x ws ih =>
    intro l h
    show (laid (l.set x.1 x.2) ws)[i]? = _
    rw [ih _ (fun y hy => h y (by simp [hy])), List.getElem?_set_ne (h x (by simp))]
structure Kept (M D0 : Dk) (S : List Bool) : Prop where
  len : S.length = 8
  firm : M.firm.length = 8
  at_ : ∀ i, S[i]? = some false → M.firm[i]? = D0.now[i]? ∧ ∀ x ∈ M.wait, x.1 ≠ i
theorem Kept.same {M M' D0 : Dk} {S : List Bool} (h : Kept M D0 S) (h1 : M'.firm = M.firm) (h2 : M'.wait = M.wait) : Kept M' D0 S := ⟨h.len, by rw [h1]; exact h.firm, by rw [h1, h2]; exact h.at_⟩
theorem Kept.more {M D0 : Dk} {S : List Bool} (h : Kept M D0 S) (j : Nat) : Kept M D0 (S.set j true) := ⟨by rw [List.length_set]; exact h.len, h.firm, fun i hi => h.at_ i (by
  rw [List.getElem?_set] at hi
  split at hi
  · split at hi
    · cases hi
    · cases hi
  · exact hi)⟩
def sinceS (o : Op4) (S : List Bool) : List Bool := if o.kd = 0 ∧ 0 ≤ o.n ∧ o.n < 8 then S.set o.n.toNat true else S
theorem kept_since {M D0 : Dk} {S : List Bool} (o : Op4) (h : Kept M D0 S) : Kept M D0 (sinceS o S) := by
  unfold sinceS; split
  · exact h.more _
  · exact h
theorem kept_step {M D0 : Dk} {S : List Bool} (o : Op4) (h4 : o.kd ≠ 4) (h : Kept M D0 S) : Kept (stepA o M).1 D0 (sinceS o S) := by
  have h0 := kept_since o h
  unfold stepA
  split
  · exact h0.same rfl rfl
  · try rw [if_neg h4]
    split
    · exact h0
    · split
      · exact h0
      · split
        · unfold syncD
          split
          · exact h0
          · split
            · exact h0.same firm_dies wait_dies
            · refine ⟨h0.len, by show (laid M.firm M.wait).length = 8; rw [laid_len]; exact h.firm, fun i hi => ⟨?_, fun x hx => (by cases hx)⟩⟩
              have := h0.at_ i hi
              show (laid M.firm M.wait)[i]? = _
              rw [laid_other i _ _ this.2]; exact this.1
        · split
          · exact h0
          · split
            · exact h0
            · rename_i h6 h7
              simp only [not_or, not_and, Int.not_lt, Int.not_le, Nat.not_lt] at h6
              have hf := h.firm
              refine Kept.same (M := putD M o.n.toNat (pad o.b)) ?_ firm_dies wait_dies
              refine ⟨h0.len, h.firm, fun i hi => ⟨(h0.at_ i hi).1, fun x hx => ?_⟩⟩
              rcases List.mem_append.1 hx with hx | hx
              · exact (h0.at_ i hi).2 x hx
              · simp only [List.mem_cons, List.not_mem_nil, or_false] at hx
                subst hx
                intro he
                by_cases hk0 : o.kd = 0
                · unfold sinceS at hi
                  rw [if_pos ⟨hk0, h6.1, by omega⟩] at hi
                  have he' : o.n.toNat = i := he
                  rw [he', List.getElem?_set] at hi
                  simp only [if_true] at hi
                  split at hi
                  · cases hi
                  · cases hi
                · omega
theorem kept_crash {M D0 : Dk} {S : List Bool} (h : Kept M D0 S) (keep tear : Int) (i : Nat) (hi : S[i]? = some false) : (crashL M keep tear)[i]? = D0.now[i]? := by
  obtain ⟨h1, h2⟩ := h.at_ i hi
  have h3 := laid_other i (M.wait.take (keepN M keep)) M.firm (fun x hx => h2 x (List.mem_of_mem_take hx))
  unfold crashL
  split
  · rename_i x hx
    rw [List.getElem?_set_ne (h2 x (List.mem_of_getElem? hx)), h3, h1]
  · rw [h3, h1]
/-- the sectors that were read. -/
def wasC (D : Dk) (k : Nat) : Array Value := (strC (D.now.take k) ++ List.replicate (8 - k) (Value.string ⟨#[]⟩)).toArray
theorem wasC_next {D : Dk} {k : Nat} {s : Sec} (hs : D.now[k]? = some s) (hk : k < 8) : (wasC D k).setIfInBounds k (st s) = wasC D (k + 1) := by
  have hlt := (List.getElem?_eq_some_iff.1 hs).1
  have hl : (strC (D.now.take k)).length = k := by simp [strC]; omega
  unfold wasC
  rw [List.setIfInBounds_toArray, strC_snoc _ _ _ hs, List.set_append_right _ _ (by omega), hl, Nat.sub_self, show 8 - k = (8 - (k + 1)) + 1 by omega, List.replicate_succ, List.set_cons_zero, List.append_assoc]
  rfl
theorem wasC_get {D : Dk} {k : Nat} {s : Sec} (hs : D.now[k]? = some s) (hk : k < 8) : (wasC D 8)[k]? = some (st s) := by
  have hlt := (List.getElem?_eq_some_iff.1 hs).1
  unfold wasC
  rw [List.getElem?_toArray, List.getElem?_append_left (by simp [strC]; omega)]
  simp [strC, List.getElem?_take, hk, hs]
def boolC (S : List Bool) : Array Value := (S.map Value.bool).toArray
theorem Dsk.notT {w : World} {base n : Nat} {V : Vs} {D : Dk} (h : Dsk w base n V D) {T b : Nat} {cs : Array Value} (hb : Box w b T cs) (h1 : 66 ≠ T) (h2 : 63 ≠ T) (h3 : 68 ≠ T) : ¬ Of n V b := by
  rintro (rfl | hv | hv | hv)
  · exact box_ne h.box hb h1 rfl
  · exact own_box_ne h.rn hb h2 hv
  · exact own_box_ne h.rf hb h2 hv
  · exact own_box_ne h.rw hb h3 hv

set_option maxHeartbeats 8000000 in
set_option maxRecDepth 100000 in
theorem lasts_core (W : World) (a : Option Addr) (len cap : Nat) (xs : List In4) (hO : OpsAt W a len xs) (hm : len ≤ maxLen) (am : Option Addr) (lm cm : Nat) (ms : List In4) (hOM : OpsAt W am lm ms) (hmm : lm ≤ maxLen) (x0 y0 : Int) :
    Calls Try.prog 5 #[.slice a len cap, .slice am lm cm, .agg #[.int .i64 x0, .int .i64 y0]] W fun e W' => e = .returned (.bool true) ∧ Below W.heap.size W W' := by
  unfold maxLen at hm hmm
  have HT5 := Lib.hid (Box.new W 41 #[.int .i64 x0, .int .i64 y0])
  have BT5 := Lib.hid ((Below.refl W.heap.size W).alloc (Nat.le_refl _) (.cells #[.int .i64 x0, .int .i64 y0] 41))
  have HOM := Lib.hid hOM
  have HML := Lib.hid hOM.len
  clear hOM
  by_cases h2 : 200 < len
  · have h2' : (200 : Int) < (len : Int) := by omega
    clear hO h2
    go_enter Try.func5, Try.ntmps5
    go_wp2_with fail
    refine (alive_any _).mono ?_
    rintro e w2 ⟨rfl, b2⟩
    have B2 := Lib.hid (BT5.out.trans (b2.mono BT5.out.size))
    clear b2
    go_wp2
    go_ret
    exact ⟨rfl, B2.out⟩
  have h2' : ¬ (200 : Int) < (len : Int) := by omega
  by_cases h3 : 200 < lm
  · have h3' : (200 : Int) < (lm : Int) := by omega
    clear hO h2 h3
    go_enter Try.func5, Try.ntmps5
    go_wp2_with fail
    refine (alive_any _).mono ?_
    rintro e w2 ⟨rfl, b2⟩
    have B2 := Lib.hid (BT5.out.trans (b2.mono BT5.out.size))
    clear b2
    go_wp2
    go_ret
    exact ⟨rfl, B2.out⟩
  · have h3' : ¬ (200 : Int) < (lm : Int) := by omega
    have hO5 : OpsAt (W.alloc (.cells #[.int .i64 x0, .int .i64 y0] 41)) a len xs := ⟨hO.1.below BT5.out (Nat.le_refl _), fun x hx => ⟨(hO.2 x hx).1.bel BT5.out, (hO.2 x hx).2⟩⟩
    have C1 := Lib.hid (plays_any (w := W.alloc (.cells #[.int .i64 x0, .int .i64 y0] 41)) 8 (by omega) a len cap xs hO5 (by omega))
    have HGP := Lib.hid (good_play (D := newD 8) xs (fun x hx => (hO.2 x hx).2) (good_new 8))
    have HWP : Hid ((playD xs (newD 8)).wait.length ≤ 200) := by
      have h1 := wait_play (D := newD 8) xs
      have h2 := hO.len
      have h3 : (newD 8).wait.length = 0 := rfl
      show (playD xs (newD 8)).wait.length ≤ 200
      omega
    have HLP : Hid ((playD xs (newD 8)).firm.length = 8) := by
      show (playD xs (newD 8)).firm.length = 8
      rw [firm_play xs (fun x hx => (hO.2 x hx).2) (good_new 8)]; rfl
    clear hO hO5 h2
    go_enter Try.func5, Try.ntmps5
    go_wp2_with fail
    refine C1.out.mono ?_
    rintro e w1 ⟨n, V, af, aw, cf, cw, rfl, hD, hR, b1⟩
    unfold rdv
    clear C1
    generalize playD xs (newD 8) = D at HGP HWP HLP hD hR ⊢
    have bA := (Below.refl w1.heap.size w1).alloc (Nat.le_refl _) (.cells #[.slice af D.firm.length cf, .slice aw D.wait.length cw, .int .i64 D.armed, .bool D.dead] 28)
    have HD2 := Lib.hid (hD.bel bA)
    have HR2 := Lib.hid (hR.bel bA)
    have T52 := Lib.hid ((HT5.out.below b1 HT5.out.lt).below bA (HT5.out.below b1 HT5.out.lt).lt)
    have HX2 := Lib.hid (Box.new w1 28 #[.slice af D.firm.length cf, .slice aw D.wait.length cw, .int .i64 D.armed, .bool D.dead])
    have B2 := Lib.hid (BT5.out.trans ((b1.trans (bA.mono b1.size)).mono BT5.out.size))
    have B25 := Lib.hid (show (W.alloc (.cells #[.int .i64 x0, .int .i64 y0] 41)).heap.size ≤ (w1.alloc (.cells #[.slice af D.firm.length cf, .slice aw D.wait.length cw, .int .i64 D.armed, .bool D.dead] 28)).heap.size from (b1.trans (bA.mono b1.size)).size)
    have HWL := Lib.hid (show D.wait.length ≤ 1000000 from by have := HWP.out; omega)
    clear hD hR b1 bA
    have HDB := Lib.hid (HD2.out.rebase BT5.out.size)
    clear HD2 HR2 HX2
    have CD := dead_any HDB.out
    go_wp2_with fail
    generalize w1.alloc (.cells #[.slice af D.firm.length cf, .slice aw D.wait.length cw, .int .i64 D.armed, .bool D.dead] 28) = w2 at HDB T52 B2 B25 CD ⊢
    refine CD.mono ?_
    rintro e w3 ⟨rfl, rfl⟩
    clear CD
    cases hd : D.dead
    rotate_left
    · go_wp2_with fail
      refine (alive_any w2).mono ?_
      rintro e w3 ⟨rfl, b3⟩
      have B3 := Lib.hid (B2.out.trans (b3.mono B2.out.size))
      clear b3
      go_wp2
      go_ret
      exact ⟨rfl, B3.out⟩
    have HDD := Lib.hid hd
    clear hd
    go_wp2_with fail
    refine (sync_any HDB.out B2.out.size HGP.out HWL.out).mono ?_
    rintro e w3 ⟨rfl, V3, hD3, hG3⟩
    have N5 : Hid (¬ Of n V W.heap.size) := HDB.out.notT T52.out (by decide) (by decide) (by decide)
    have HD3 := Lib.hid hD3
    have T53 := Lib.hid (T52.out.touch hG3.touch N5.out)
    have B3 := Lib.hid (hG3.below B2.out (Nat.le_refl _) HDB.out.of_ge)
    clear hD3 hG3
    cases hdb : diesB D
    rotate_left
    · have he : syncE D = 40 := by unfold syncE; rw [HDD.out, hdb]; rfl
      rw [he]
      clear he
      go_wp2_with fail
      refine (alive_any w3).mono ?_
      rintro e w4 ⟨rfl, b4⟩
      have B4 := Lib.hid (B3.out.trans (b4.mono B3.out.size))
      clear b4
      go_wp2
      go_ret
      exact ⟨rfl, B4.out⟩
    have he : syncE D = 0 := by unfold syncE; rw [HDD.out, hdb]; rfl
    rw [he]
    obtain ⟨D0, hD0⟩ : ∃ D0, D0 = syncD D := ⟨_, rfl⟩
    have hsy : D0 = { diesD D with firm := laid D.firm D.wait, wait := [] } := by rw [hD0]; unfold syncD; rw [HDD.out, hdb]; rfl
    have G0 : Hid (Good D0) := by rw [hD0]; exact good_sync HGP.out
    have K0 : Hid (Kept D0 D0 (List.replicate 8 false)) := by
      have hnow : D0.now = D0.firm := by
        rw [hsy]
        show (diesD D).now = laid D.firm D.wait
        have : (diesD D).now = D.now := by unfold diesD; split <;> rfl
        rw [this, HGP.out.is]
      have hw0 : D0.wait = [] := by rw [hsy]
      exact ⟨rfl, by rw [hsy]; show (laid D.firm D.wait).length = 8; rw [laid_len]; exact HLP.out, fun i _ => ⟨by rw [hnow], fun x hx => (by rw [hw0] at hx; cases hx)⟩⟩
    have HW0 : Hid (D0.wait.length = 0) := by rw [hsy]; exact (rfl : ([] : List Wr).length = 0)
    have HN8 : Hid (D0.now.length = 8) := by
      show D0.now.length = 8
      rw [← G0.out.same, K0.out.firm]
    have HA0 : Hid (D0.dead = false) := by
      rw [hsy]
      show (diesD D).dead = false
      unfold diesD
      unfold diesB at hdb
      split
      · exact HDD.out
      · rename_i h0; rw [if_neg h0] at hdb; exact hdb
    rw [← hD0] at HD3
    clear he hdb hD0 hsy
    go_wp2_with fail
    have HD4 := Lib.hid (HD3.out.alloc (.cells (wasC D0 0) 43))
    have T54 := Lib.hid (T53.out.alloc (.cells (wasC D0 0) 43))
    have B4 := Lib.hid (B3.out.alloc B3.out.size (.cells (wasC D0 0) 43))
    have X4 := Lib.hid (Box.new w3 43 (wasC D0 0))
    have hwc : wasC D0 0 = #[.string ⟨#[]⟩, .string ⟨#[]⟩, .string ⟨#[]⟩, .string ⟨#[]⟩, .string ⟨#[]⟩, .string ⟨#[]⟩, .string ⟨#[]⟩, .string ⟨#[]⟩] := rfl
    have H5X := Lib.hid (show W.heap.size < w3.heap.size from T53.out.lt)
    rw [← hwc]
    clear hwc
    generalize w3.alloc (.cells (wasC D0 0) 43) = w4 at HD4 T54 B4 X4 ⊢
    generalize w3.heap.size = X at X4 H5X ⊢
    go_loopw [51] (fun iv wr => ∃ k : Nat, k ≤ 8 ∧ iv = .int .i64 k ∧ Dsk wr W.heap.size n V3 D0 ∧ Box wr W.heap.size 41 #[.int .i64 x0, .int .i64 y0] ∧ Box wr X 43 (wasC D0 k) ∧ Below W.heap.size W wr) (fun iv _ => 8 - (intOf iv).toNat)
    case atStart => exact ⟨0, Nat.zero_le _, rfl, HD4.out, T54.out, X4.out, B4.out⟩
    case round =>
    obtain ⟨k, hk, rfl, hD, hT, hX, hB⟩ := hrel
    have HDR := Lib.hid hD
    have TR := Lib.hid hT
    have XR := Lib.hid hX
    have BR := Lib.hid hB
    clear hD hT hX hB
    by_cases hlt : k < 8
    · obtain ⟨s, hs⟩ : ∃ s, D0.now[k]? = some s := ⟨_, List.getElem?_eq_getElem (by rw [HN8.out]; exact hlt)⟩
      have R1 := Lib.hid (read_ok HDR.out G0.out HA0.out k s hs)
      have hsl := G0.out.fulln s (List.mem_of_getElem? hs)
      have HWN := Lib.hid (wasC_next hs hlt)
      have bA := (Below.refl wr.heap.size wr).alloc (Nat.le_refl _) (.cells (bc s).toArray 63)
      have hcv := conv_any (bys_new wr s 63 hsl) 64
      obtain ⟨z, hz⟩ : ∃ z : ByteArray, z = ⟨s.toArray⟩ := ⟨_, rfl⟩
      unfold st at hcv HWN
      rw [← hz] at hcv HWN
      have HD5 := Lib.hid (HDR.out.bel bA)
      have T5 := Lib.hid (TR.out.below bA TR.out.lt)
      have X5 := Lib.hid (XR.out.below bA XR.out.lt)
      have B5 := Lib.hid (BR.out.trans (bA.mono BR.out.size))
      have NX := Lib.hid (HDR.out.notT XR.out (by decide) (by decide) (by decide))
      have hxe : (wasC D0 k)[k]? = some (.string ⟨#[]⟩) := by
        unfold wasC
        have hl : (strC (D0.now.take k)).length = k := by simp [strC, HN8.out]; omega
        rw [List.getElem?_toArray, List.getElem?_append_right (by omega), hl, Nat.sub_self, List.getElem?_replicate, if_pos (by omega)]
      have cx : (wr.alloc (.cells (bc s).toArray 63)).cell? ⟨X, k, none⟩ = some (.string ⟨#[]⟩) := by rw [X5.out.cell k]; exact hxe
      have fx := X5.out.frozen k
      have hki : (k : Int) < 8 := by omega
      clear hs hsl hz bA hxe
      go_wp2_with fail
      refine R1.out.mono ?_
      rintro e w6 ⟨rfl, rfl⟩
      generalize wr.alloc (.cells (bc s).toArray 63) = w6 at hcv HD5 T5 X5 B5 cx fx ⊢
      generalize wr.heap.size = Y at hcv ⊢
      go_wp2_with fail
      go_roundw
      case rel =>
        refine ⟨k + 1, by omega, by go_num, HD5.out.stays (fun j _ ho => Below.heap_setCell _ _ _ _ (fun e => NX.out ((show j = X from e) ▸ ho))), T5.out.set_other (p := ⟨X, k, none⟩) (by have := H5X.out; show W.heap.size ≠ X; omega) _, ?_, B5.out.setCell (p := ⟨X, k, none⟩) (by have := H5X.out; show W.heap.size ≤ X; omega) _⟩
        rw [← HWN.out]; exact X5.out.set k _
      case measure => simp [intOf]; omega
    · rename World => w5
      obtain rfl : k = 8 := by omega
      rw [show ((8 : Nat) : Int) = 8 from rfl]
      have hbc : boolC (List.replicate 8 false) = #[.bool false, .bool false, .bool false, .bool false, .bool false, .bool false, .bool false, .bool false] := rfl
      have HD6 := Lib.hid (HDR.out.alloc (.cells (boolC (List.replicate 8 false)) 44))
      have T6 := Lib.hid (TR.out.alloc (.cells (boolC (List.replicate 8 false)) 44))
      have X6 := Lib.hid (XR.out.alloc (.cells (boolC (List.replicate 8 false)) 44))
      have B6 := Lib.hid (BR.out.alloc BR.out.size (.cells (boolC (List.replicate 8 false)) 44))
      have Y6 := Lib.hid (Box.new w5 44 (boolC (List.replicate 8 false)))
      have HXY := Lib.hid (show X < w5.heap.size from XR.out.lt)
      clear HDR TR XR BR HD4 T54 X4 B4 HD3 T53 B3
      go_wp2_with fail
      rw [← hbc]
      clear hbc
      generalize w5.alloc (.cells (boolC (List.replicate 8 false)) 44) = w6 at HD6 T6 X6 B6 Y6 ⊢
      generalize w5.heap.size = Y at Y6 HXY ⊢
      go_loopw [67] (fun iv wr => ∃ (k : Nat) (V : Vs) (M : Dk) (S : List Bool), k ≤ lm ∧ iv = .int .i64 k ∧ Kept M D0 S ∧ Good M ∧ M.wait.length ≤ k ∧ Dsk wr W.heap.size n V M ∧ Box wr W.heap.size 41 #[.int .i64 x0, .int .i64 y0] ∧ Box wr X 43 (wasC D0 8) ∧ Box wr Y 44 (boolC S) ∧ Below W.heap.size W wr) (fun iv _ => lm - (intOf iv).toNat)
      case atStart => exact ⟨0, V3, D0, _, Nat.zero_le _, rfl, K0.out, G0.out, by rw [HW0.out]; exact Nat.le_refl 0, HD6.out, T6.out, X6.out, Y6.out, B6.out⟩
      case round =>
      clear HD6 T6 X6 Y6 B6
      obtain ⟨k, V, M, S, hk, rfl, hK, hGM, hWM, hD, hT, hX, hY, hB⟩ := hrel
      have KM := Lib.hid hK
      have GM := Lib.hid hGM
      have HDR := Lib.hid hD
      have TR := Lib.hid hT
      have XR := Lib.hid hX
      have YR := Lib.hid hY
      have BR := Lib.hid hB
      clear hK hGM hD hT hX hY hB
      by_cases hlt : k < lm
      · obtain ⟨bb, off, x, rfl, hx, hbw, hBx, hfx, d0, d1, d2, d3⟩ := HOM.out.get k hlt
        rw [← BR.out.cell (p := ⟨bb, _, none⟩) hbw] at d0 d1 d2 d3
        have hbr : bb < wr.heap.size := Nat.lt_of_lt_of_le hbw BR.out.size
        have bA := (Below.refl wr.heap.size wr).alloc (Nat.le_refl _) (.cells #[.int .i64 x.o.kd, .int .i64 x.o.n, .int .i64 x.o.tear, .slice x.ad x.o.b.length x.cap] 46)
        have HDA := Lib.hid (HDR.out.bel bA)
        have TA := Lib.hid (TR.out.below bA TR.out.lt)
        have XA := Lib.hid (XR.out.below bA XR.out.lt)
        have YA := Lib.hid (YR.out.below bA YR.out.lt)
        have BA := Lib.hid (BR.out.trans (bA.mono BR.out.size))
        have HXO := Lib.hid (Box.new wr 46 #[.int .i64 x.o.kd, .int .i64 x.o.n, .int .i64 x.o.tear, .slice x.ad x.o.b.length x.cap])
        have HBX := Lib.hid hBx
        have HFX := Lib.hid hfx
        clear bA hx hBx hfx
        by_cases hbad : 3 < x.o.kd
        · go_wp2_with fail
          go_roundw
          case rel => exact ⟨k + 1, V, M, S, by omega, by go_num, KM.out, GM.out, by omega, HDA.out, TA.out, XA.out, YA.out, BA.out⟩
          case measure => simp [intOf]; omega
        by_cases hbad2 : x.o.kd < 0
        · go_wp2_with fail
          go_roundw
          case rel => exact ⟨k + 1, V, M, S, by omega, by go_num, KM.out, GM.out, by omega, HDA.out, TA.out, XA.out, YA.out, BA.out⟩
          case measure => simp [intOf]; omega
        have h4 : x.o.kd ≠ 4 := by omega
        have KN := Lib.hid (kept_step x.o h4 KM.out)
        have GN := Lib.hid (good_step x.o HFX.out GM.out)
        have WN := Lib.hid (Nat.le_trans (wait_step (D := M) x.o) (Nat.succ_le_succ hWM))
        have C2 := Lib.hid (fun (w4 : World) (hD : Dsk w4 W.heap.size n V M) (hb : W.heap.size ≤ w4.heap.size) (hB : Bys w4 x.ad x.o.b.length x.o.b) => does1_any (ad := x.ad) (cap := x.cap) x.o h4 hD hb GM.out (by omega) hB)
        obtain ⟨r, hr⟩ : ∃ r, r = stepA x.o M := ⟨_, rfl⟩
        rw [← hr] at KN GN WN
        simp only [← hr] at C2
        unfold ov Dids1 st at C2
        clear hr
        by_cases hsn : x.o.kd = 0 ∧ 0 ≤ x.o.n ∧ x.o.n < 8
        · obtain ⟨hk0, hn0, hn8⟩ := hsn
          have hss : sinceS x.o S = S.set x.o.n.toNat true := by unfold sinceS; rw [if_pos ⟨hk0, hn0, hn8⟩]
          rw [hss] at KN
          obtain ⟨j, hj⟩ := Int.eq_ofNat_of_zero_le hn0
          have hj8 : j < 8 := by omega
          rw [hj, Int.toNat_natCast] at KN
          have q0 : (x.o.kd == 0) = true := by simpa using hk0
          obtain ⟨bv, hbv⟩ : ∃ bv, S[j]? = some bv := ⟨_, List.getElem?_eq_getElem (by rw [KM.out.len]; exact hj8)⟩
          have hji : (j : Int) < 8 := by omega
          have HYS : Hid ((boolC S).setIfInBounds j (.bool true) = boolC (S.set j true)) := by
            have : (boolC S).setIfInBounds j (.bool true) = boolC (S.set j true) := by simp [boolC, List.map_set]
            exact this
          rw [hj] at HDA TA XA YA BA HXO C2 d1
          have cy : (wr.alloc (.cells #[.int .i64 x.o.kd, .int .i64 (j : Int), .int .i64 x.o.tear, .slice x.ad x.o.b.length x.cap] 46)).cell? ⟨Y, j, none⟩ = some (.bool bv) := by rw [YA.out.cell j]; simp [boolC, hbv]
          have fy := YA.out.frozen j
          have hYl := YR.out.lt
          have hYn : ¬ wr.heap.size = Y := by omega
          have hYn' : ¬ Y = wr.heap.size := by omega
          have NY := Lib.hid (HDA.out.notT YA.out (by decide) (by decide) (by decide))
          clear hbv hss hn0 hn8 hk0 hj
          have HDS := Lib.hid (HDR.out.stays (w' := wr.setCell ⟨Y, j, none⟩ (.bool true)) (fun i _ ho => Below.heap_setCell _ _ _ _ (fun e => HDR.out.notT YR.out (by decide) (by decide) (by decide) ((show i = Y from e) ▸ ho))))
          have TS := Lib.hid (TR.out.set_other (p := ⟨Y, j, none⟩) (by have := H5X.out; have := HXY.out; show W.heap.size ≠ Y; omega) (.bool true))
          have XS := Lib.hid (XR.out.set_other (p := ⟨Y, j, none⟩) (by have := HXY.out; show X ≠ Y; omega) (.bool true))
          have YS := Lib.hid (show Box (wr.setCell ⟨Y, j, none⟩ (.bool true)) Y 44 (boolC (S.set j true)) by rw [← HYS.out]; exact YR.out.set j (.bool true))
          have BS := Lib.hid (BR.out.setCell (p := ⟨Y, j, none⟩) (by have := H5X.out; have := HXY.out; show W.heap.size ≤ Y; omega) (.bool true))
          have bA2 := (Below.refl (wr.setCell ⟨Y, j, none⟩ (.bool true)).heap.size (wr.setCell ⟨Y, j, none⟩ (.bool true))).alloc (Nat.le_refl _) (.cells #[.int .i64 x.o.kd, .int .i64 (j : Int), .int .i64 x.o.tear, .slice x.ad x.o.b.length x.cap] 46)
          have HD7 := Lib.hid (HDS.out.bel bA2)
          have T7 := Lib.hid (TS.out.below bA2 TS.out.lt)
          have X7 := Lib.hid (XS.out.below bA2 XS.out.lt)
          have Y7 := Lib.hid (YS.out.below bA2 YS.out.lt)
          have B7 := Lib.hid (BS.out.trans (bA2.mono BS.out.size))
          clear bA2 HDS TS XS YS BS HDA TA XA YA BA
          go_wp2_with fail
          generalize (wr.setCell ⟨Y, j, none⟩ (.bool true)).alloc (.cells #[.int .i64 x.o.kd, .int .i64 (j : Int), .int .i64 x.o.tear, .slice x.ad x.o.b.length x.cap] 46) = w7 at HD7 T7 X7 Y7 B7 ⊢
          refine (C2.out _ HD7.out B7.out.size (HBX.out.bel B7.out)).mono ?_
          rintro e w8 ⟨V', rfl, hD8, hM8⟩
          have HD8 := Lib.hid hD8
          have T8 := Lib.hid (T7.out.touch hM8.touch (HD7.out.notT T7.out (by decide) (by decide) (by decide)))
          have X8 := Lib.hid (X7.out.touch hM8.touch (HD7.out.notT X7.out (by decide) (by decide) (by decide)))
          have Y8 := Lib.hid (Y7.out.touch hM8.touch (HD7.out.notT Y7.out (by decide) (by decide) (by decide)))
          have B8 := Lib.hid (Below.touch B7.out hM8.touch (Nat.le_refl _) HD7.out.of_ge)
          clear hD8 hM8 C2
          go_wp2_with fail
          go_roundw
          case rel => exact ⟨k + 1, V', r.1, S.set j true, by omega, by go_num, KN.out, GN.out, WN.out, HD8.out, T8.out, X8.out, Y8.out, B8.out⟩
          case measure => simp [intOf]; omega
        · have hss : sinceS x.o S = S := by unfold sinceS; rw [if_neg hsn]
          rw [hss] at KN
          clear hss
          by_cases hk0 : x.o.kd = 0
          · have q0 : (x.o.kd == 0) = true := by simpa using hk0
            by_cases hn0 : x.o.n < 0
            · have hn0' : ¬ 0 ≤ x.o.n := by omega
              clear hsn hk0
              go_wp2_with fail
              refine (C2.out _ HDA.out BA.out.size (HBX.out.bel BA.out)).mono ?_
              rintro e w8 ⟨V', rfl, hD8, hM8⟩
              have HD8 := Lib.hid hD8
              have T8 := Lib.hid (TA.out.touch hM8.touch (HDA.out.notT TA.out (by decide) (by decide) (by decide)))
              have X8 := Lib.hid (XA.out.touch hM8.touch (HDA.out.notT XA.out (by decide) (by decide) (by decide)))
              have Y8 := Lib.hid (YA.out.touch hM8.touch (HDA.out.notT YA.out (by decide) (by decide) (by decide)))
              have B8 := Lib.hid (Below.touch BA.out hM8.touch (Nat.le_refl _) HDA.out.of_ge)
              clear hD8 hM8 C2
              go_wp2_with fail
              go_roundw
              case rel => exact ⟨k + 1, V', r.1, S, by omega, by go_num, KN.out, GN.out, WN.out, HD8.out, T8.out, X8.out, Y8.out, B8.out⟩
              case measure => simp [intOf]; omega
            · have hn0' : 0 ≤ x.o.n := by omega
              have hn8 : ¬ x.o.n < 8 := fun h => hsn ⟨hk0, hn0', h⟩
              clear hsn hk0
              go_wp2_with fail
              refine (C2.out _ HDA.out BA.out.size (HBX.out.bel BA.out)).mono ?_
              rintro e w8 ⟨V', rfl, hD8, hM8⟩
              have HD8 := Lib.hid hD8
              have T8 := Lib.hid (TA.out.touch hM8.touch (HDA.out.notT TA.out (by decide) (by decide) (by decide)))
              have X8 := Lib.hid (XA.out.touch hM8.touch (HDA.out.notT XA.out (by decide) (by decide) (by decide)))
              have Y8 := Lib.hid (YA.out.touch hM8.touch (HDA.out.notT YA.out (by decide) (by decide) (by decide)))
              have B8 := Lib.hid (Below.touch BA.out hM8.touch (Nat.le_refl _) HDA.out.of_ge)
              clear hD8 hM8 C2
              go_wp2_with fail
              go_roundw
              case rel => exact ⟨k + 1, V', r.1, S, by omega, by go_num, KN.out, GN.out, WN.out, HD8.out, T8.out, X8.out, Y8.out, B8.out⟩
              case measure => simp [intOf]; omega
          · have q0 : (x.o.kd == 0) = false := by simpa using hk0
            clear hsn hk0
            go_wp2_with fail
            refine (C2.out _ HDA.out BA.out.size (HBX.out.bel BA.out)).mono ?_
            rintro e w8 ⟨V', rfl, hD8, hM8⟩
            have HD8 := Lib.hid hD8
            have T8 := Lib.hid (TA.out.touch hM8.touch (HDA.out.notT TA.out (by decide) (by decide) (by decide)))
            have X8 := Lib.hid (XA.out.touch hM8.touch (HDA.out.notT XA.out (by decide) (by decide) (by decide)))
            have Y8 := Lib.hid (YA.out.touch hM8.touch (HDA.out.notT YA.out (by decide) (by decide) (by decide)))
            have B8 := Lib.hid (Below.touch BA.out hM8.touch (Nat.le_refl _) HDA.out.of_ge)
            clear hD8 hM8 C2
            go_wp2_with fail
            go_roundw
            case rel => exact ⟨k + 1, V', r.1, S, by omega, by go_num, KN.out, GN.out, WN.out, HD8.out, T8.out, X8.out, Y8.out, B8.out⟩
            case measure => simp [intOf]; omega
      · rename World => w7
        clear HOM
        have e0 : w7.cell? ⟨W.heap.size, 0, none⟩ = some (.int .i64 x0) := TR.out.cell 0
        have e1 : w7.cell? ⟨W.heap.size, 1, none⟩ = some (.int .i64 y0) := TR.out.cell 1
        have hel := TR.out.lt
        go_wp2_with fail
        refine (crash_any x0 y0 HDR.out BR.out.size GM.out (by omega)).mono ?_
        rintro e w8 ⟨nC, VC, rfl, hDC, b8⟩
        have HDC := Lib.hid hDC
        have X8 := Lib.hid (XR.out.below b8 XR.out.lt)
        have Y8 := Lib.hid (YR.out.below b8 YR.out.lt)
        have B8 := Lib.hid (BR.out.trans (b8.mono BR.out.size))
        have GC := Lib.hid (good_crash GM.out x0 y0)
        have hln : (crashD M x0 y0).now.length = 8 := by
          show (crashL M x0 y0).length = 8
          rw [(crashL_full GM.out _ _).2, KM.out.firm]
        have HLN := Lib.hid hln
        have HKC : Hid (∀ i, S[i]? = some false → (crashD M x0 y0).now[i]? = D0.now[i]?) := fun i hi => kept_crash KM.out x0 y0 i hi
        have HDE : Hid ((crashD M x0 y0).dead = false) := (rfl : (crashD M x0 y0).dead = false)
        generalize crashD M x0 y0 = C at HDC GC HLN HKC HDE
        clear hDC b8 e0 e1 hel HDR TR XR YR BR hln
        go_wp2_with fail
        go_loopw [107] (fun iv wr => ∃ k : Nat, k ≤ 8 ∧ iv = .int .i64 k ∧ Below w8.heap.size w8 wr) (fun iv _ => 8 - (intOf iv).toNat)
        case atStart => exact ⟨0, Nat.zero_le _, rfl, Below.refl _ _⟩
        case round =>
        obtain ⟨k, hk, rfl, hB⟩ := hrel
        have HB := Lib.hid hB
        clear hB
        by_cases hlt : k < 8
        · obtain ⟨s, hs⟩ : ∃ s, C.now[k]? = some s := ⟨_, List.getElem?_eq_getElem (by rw [HLN.out]; exact hlt)⟩
          obtain ⟨s0, hs0⟩ : ∃ s, D0.now[k]? = some s := ⟨_, List.getElem?_eq_getElem (by rw [HN8.out]; exact hlt)⟩
          obtain ⟨bv, hbv⟩ : ∃ bv, S[k]? = some bv := ⟨_, List.getElem?_eq_getElem (by rw [KM.out.len]; exact hlt)⟩
          have R1 := Lib.hid (read_ok (HDC.out.bel HB.out) GC.out HDE.out k s hs)
          have hsl := GC.out.fulln s (List.mem_of_getElem? hs)
          have bA := (Below.refl wr.heap.size wr).alloc (Nat.le_refl _) (.cells (bc s).toArray 63)
          have HYB := Lib.hid (bys_new wr s 63 hsl)
          have B9 := Lib.hid (HB.out.trans (bA.mono HB.out.size))
          have hki : (k : Int) < 8 := by omega
          have cb : w8.cell? ⟨Y, k, none⟩ = some (.bool bv) := by rw [Y8.out.cell k]; simp [boolC, hbv]
          have cw : w8.cell? ⟨X, k, none⟩ = some (st s0) := by rw [X8.out.cell k]; exact wasC_get hs0 hlt
          unfold st at cw
          have HCB := Lib.hid cb
          have HCW := Lib.hid cw
          clear bA hsl cb cw
          go_wp2_with fail
          refine R1.out.mono ?_
          rintro e w9 ⟨rfl, rfl⟩
          clear R1
          go_wp2_with fail
          generalize wr.heap.size = Z at HYB ⊢
          generalize wr.alloc (.cells (bc s).toArray 63) = w9 at HYB B9 ⊢
          have QS : Hid (∀ w, Below w9.heap.size w9 w → w.cell? ⟨Y, k, none⟩ = some (.bool bv)) := fun w hw => by
            rw [(B9.out.trans (hw.mono B9.out.size)).cell (p := ⟨Y, k, none⟩) Y8.out.lt]; exact HCB.out
          have QW0 : Hid (∀ w, Below w9.heap.size w9 w → w.cell? ⟨X, k, none⟩ = some (.string ⟨s0.toArray⟩)) := fun w hw => by
            rw [(B9.out.trans (hw.mono B9.out.size)).cell (p := ⟨X, k, none⟩) X8.out.lt]; exact HCW.out
          cases bv
          · have hss : s = s0 := by
              have := HKC.out k hbv
              rw [hs, hs0] at this
              exact Option.some.inj this
            subst hss
            obtain ⟨z, hz⟩ : ∃ z : ByteArray, z = ⟨s.toArray⟩ := ⟨_, rfl⟩
            have HZ := Lib.hid hz
            have QW : Hid (∀ w, Below w9.heap.size w9 w → w.cell? ⟨X, k, none⟩ = some (.string z)) := fun w hw => by rw [HZ.out]; exact QW0.out w hw
            have QY : Hid (∀ w, Below w9.heap.size w9 w → (convert 36 9 (.slice (some ⟨Z, 0, none⟩) 64 64)).run Try.prog w = .ok (.string z) w) := fun w hw => by rw [HZ.out]; exact conv_any (HYB.out.bel hw) 64
            clear hz hs hs0 hbv QW0 HCB HCW
            refine wp_region_below (B := w9.heap.size) (w0 := w9) (by kernel_rfl) (by kernel_rfl) (Below.refl _ _) ?_
            go_big_quiet_want; go_big_quiet_op; go_big_quiet_on
            go_big_quiet_want; apply quiet_value (v := .bool false); (· (intro w hw; go_simp; try rfl)); simp only [Act.put, List.setIfInBounds_toArray, List.set_cons_succ, List.set_cons_zero]; go_big_quiet_on
            go_big_quiet_want; go_big_quiet_op; go_big_quiet_on
            go_big_quiet_want; go_big_quiet_op; go_big_quiet_on
            go_big_quiet_want; apply quiet_value; (· (intro w hw; go_simp; try rfl)); simp only [Act.put, List.setIfInBounds_toArray, List.set_cons_succ, List.set_cons_zero]; go_big_quiet_on
            go_big_quiet_want; apply quiet_value (v := .bool false); (· (intro w hw; have q := QS.out w hw; go_simp; try rfl)); simp only [Act.put, List.setIfInBounds_toArray, List.set_cons_succ, List.set_cons_zero]; go_big_quiet_on
            go_big_quiet_want; apply quiet_value (v := .bool true); (· (intro w hw; go_simp; try rfl)); simp only [Act.put, List.setIfInBounds_toArray, List.set_cons_succ, List.set_cons_zero]; go_big_quiet_on
            go_big_quiet_want; go_big_quiet_op; go_big_quiet_on
            go_big_quiet_want; go_big_quiet_op; go_big_quiet_on
            go_big_quiet_want; apply quiet_value; (· (intro w hw; have hcv := QY.out w hw; go_simp; try rfl)); simp only [Act.put, List.setIfInBounds_toArray, List.set_cons_succ, List.set_cons_zero]; go_big_quiet_on
            go_big_quiet_want; go_big_quiet_op; go_big_quiet_on
            go_big_quiet_want; apply quiet_value; (· (intro w hw; go_simp; try rfl)); simp only [Act.put, List.setIfInBounds_toArray, List.set_cons_succ, List.set_cons_zero]; go_big_quiet_on
            go_big_quiet_want; apply quiet_value; (· (intro w hw; have q := QW.out w hw; go_simp; try rfl)); simp only [Act.put, List.setIfInBounds_toArray, List.set_cons_succ, List.set_cons_zero]; go_big_quiet_on
            go_big_quiet_want; apply quiet_value (v := .bool false); (· (intro w hw; go_simp; try rfl)); simp only [Act.put, List.setIfInBounds_toArray, List.set_cons_succ, List.set_cons_zero]; go_big_quiet_on
            go_big_quiet_want; apply quiet_value; (· (intro w hw; go_simp; try rfl)); simp only [Act.put, List.setIfInBounds_toArray, List.set_cons_succ, List.set_cons_zero]; go_big_quiet_on
            go_big_quiet_want; apply quiet_value; (· (intro w hw; go_simp; try rfl)); simp only [Act.put, List.setIfInBounds_toArray, List.set_cons_succ, List.set_cons_zero]; go_big_quiet_on
            refine wpQuiet_nil ?_
            intro wZ bZ
            have BZ := Lib.hid (B9.out.trans (bZ.mono B9.out.size))
            clear bZ
            go_wp2
            go_roundw
            case rel => exact ⟨k + 1, by omega, by go_num, BZ.out⟩
            case measure => simp [intOf]; omega
          · clear hs hs0 hbv QW0 HCB HCW
            refine wp_region_below (B := w9.heap.size) (w0 := w9) (by kernel_rfl) (by kernel_rfl) (Below.refl _ _) ?_
            go_big_quiet_want; go_big_quiet_op; go_big_quiet_on
            go_big_quiet_want; apply quiet_value (v := .bool false); (· (intro w hw; go_simp; try rfl)); simp only [Act.put, List.setIfInBounds_toArray, List.set_cons_succ, List.set_cons_zero]; go_big_quiet_on
            go_big_quiet_want; go_big_quiet_op; go_big_quiet_on
            go_big_quiet_want; go_big_quiet_op; go_big_quiet_on
            go_big_quiet_want; apply quiet_value; (· (intro w hw; go_simp; try rfl)); simp only [Act.put, List.setIfInBounds_toArray, List.set_cons_succ, List.set_cons_zero]; go_big_quiet_on
            go_big_quiet_want; apply quiet_value (v := .bool true); (· (intro w hw; have q := QS.out w hw; go_simp; try rfl)); simp only [Act.put, List.setIfInBounds_toArray, List.set_cons_succ, List.set_cons_zero]; go_big_quiet_on
            go_big_quiet_want; apply quiet_value (v := .bool false); (· (intro w hw; go_simp; try rfl)); simp only [Act.put, List.setIfInBounds_toArray, List.set_cons_succ, List.set_cons_zero]; go_big_quiet_on
            go_big_quiet_want; go_big_quiet_op; go_big_quiet_on
            go_big_quiet_skip
            go_big_quiet_skip
            go_big_quiet_skip
            go_big_quiet_skip
            go_big_quiet_skip
            go_big_quiet_skip
            go_big_quiet_want; apply quiet_value; (· (intro w hw; go_simp; try rfl)); simp only [Act.put, List.setIfInBounds_toArray, List.set_cons_succ, List.set_cons_zero]; go_big_quiet_on
            go_big_quiet_want; apply quiet_value; (· (intro w hw; go_simp; try rfl)); simp only [Act.put, List.setIfInBounds_toArray, List.set_cons_succ, List.set_cons_zero]; go_big_quiet_on
            refine wpQuiet_nil ?_
            intro wZ bZ
            have BZ := Lib.hid (B9.out.trans (bZ.mono B9.out.size))
            clear bZ
            go_wp2
            go_roundw
            case rel => exact ⟨k + 1, by omega, by go_num, BZ.out⟩
            case measure => simp [intOf]; omega
        · have B9 := Lib.hid (B8.out.trans (HB.out.mono B8.out.size))
          go_wp2_with fail
          refine (alive_any wr).mono ?_
          rintro e wZ ⟨rfl, bZ⟩
          have BZ := Lib.hid (B9.out.trans (bZ.mono B9.out.size))
          clear bZ
          go_wp2
          go_ret
          exact ⟨rfl, BZ.out⟩
theorem open_pair {H : Type} {enc : TypeId × Value → H} {W : World} {base : Nat} {v : Value} {d : DataW H} {p : List MemPlace} (hv : Value.okWide Try.prog W .any base 41 v) (h : DataW.Trod enc Try.prog W 0 (fun _ => true) true 41 v d p) :
    ∃ x y : Int, v = .agg #[.int .i64 x, .int .i64 y] := by
  simp only [Value.okWide, Try.underlying41] at hv
  obtain ⟨cs, rfl, h2, _⟩ := hv
  obtain ⟨fuel, hf⟩ := h
  obtain ⟨xs, m, _, ex, hlen, hl, hel⟩ := DataW.trod_array Try.underlying41 hf
  have c3 : Try.prog.cellsOf 3 = 1 := by kernel_rfl
  have c41 : Try.prog.cellsOf 41 = 2 := by kernel_rfl
  rw [c41] at hlen
  obtain ⟨l⟩ := cs
  match l, hlen with
  | [a, b], _ =>
    match xs, hl with
    | [x0, x1], _ =>
      have k0 := hel 0 (by omega)
      have k1 := hel 1 (by omega)
      rw [c3] at k0 k1
      obtain ⟨z0, e0, _, _⟩ := DataW.trod_int Try.underlying3 k0
      obtain ⟨z1, e1, _, _⟩ := DataW.trod_int Try.underlying3 k1
      simp [Value.cells] at e0 e1
      exact ⟨z0, z1, by rw [e0, e1]⟩
theorem platterLasts_walk {H : Type} {enc : TypeId × Value → H} {base : Nat} {p0 p1 p2 : List MemPlace} (W : World) (v0 : Value) (d0 : DataW H) (hv0 : Value.okWide Try.prog W .any base 22 v0) (h0 : DataW.Trod enc Try.prog W 0 (fun _ => true) true 22 v0 d0 p0) (_b0 : ∀ n ∈ d0.weights Try.prog 22, n ≤ 140737488351232)
    (v1 : Value) (d1 : DataW H) (hv1 : Value.okWide Try.prog W .any base 22 v1) (h1 : DataW.Trod enc Try.prog W 0 (fun _ => true) true 22 v1 d1 p1) (_b1 : ∀ n ∈ d1.weights Try.prog 22, n ≤ 140737488351232)
    (v2 : Value) (d2 : DataW H) (hv2 : Value.okWide Try.prog W .any base 41 v2) (h2 : DataW.Trod enc Try.prog W 0 (fun _ => true) true 41 v2 d2 p2) (_b2 : ∀ n ∈ d2.weights Try.prog 41, n ≤ 140737488351232) :
    Calls Try.prog 5 #[v0, v1, v2] W fun e W' => e = .returned (.bool true) ∧ Below W.heap.size W W' := by
  obtain ⟨a, len, cap, xs, rfl, hP, q1, q2⟩ := open_ops hv0 h0
  obtain ⟨am, lm, cm, ms, rfl, hPM, q3, q4⟩ := open_ops hv1 h1
  obtain ⟨x, y, rfl⟩ := open_pair hv2 h2
  exact lasts_core W a len cap xs hP (by omega) am lm cm ms hPM (by omega) x y
end Go.Proofs.Ytpgoacemjpobjaa
