/- platter: Write. Conditions: the disk lies in the call's own memory, the bytes in memory. -/
import Derived.Test.YtdiboicllolcnaaPe
namespace Go.Proofs.Ytdiboicllolcnaa
open Go Go.RowKit
set_option linter.unusedVariables false
set_option linter.unusedSimpArgs false
variable {w w' : World} {base n : Nat} {V V' V'' : Vs} {D : Dk}

def putD (D : Dk) (k : Nat) (s : Sec) : Dk := { D with now := D.now.set k s, wait := D.wait ++ [(k, s)] }
def wrE (D : Dk) (k : Int) (len : Nat) : Int := if mayE D k ≠ 0 then mayE D k else if 64 < len then 41 else if diesB D then 40 else 0
def wrD (D : Dk) (k : Int) (b : Sec) : Dk := if mayE D k ≠ 0 ∨ 64 < b.length then D else diesD (putD D k.toNat (pad b))
set_option maxHeartbeats 1000000 in
theorem write_no (k : Int) (ad : Option Addr) (len cap : Nat) (h : Dsk w base n V D) (hg : Good D) (hl : len ≤ maxLen) (hno : mayE D k ≠ 0 ∨ 64 < len) : Calls Try.prog 16 #[.pointer (some ⟨n, 0, none⟩), .int .i64 k, .slice ad len cap] w fun e w' => e = .returned (.int .i64 (wrE D k len)) ∧ w = w' := by
  have C1 := may_any k h hg.many
  obtain ⟨e0, he⟩ : ∃ e0, e0 = mayE D k := ⟨_, rfl⟩
  rw [← he] at C1 hno
  have C1 := Lib.hid C1
  have HE := Lib.hid (show wrE D k len = if e0 ≠ 0 then e0 else if 64 < len then 41 else if diesB D then 40 else 0 by unfold wrE; rw [← he])
  unfold maxLen at hl
  clear h hg he
  by_cases hm : e0 = 0
  · subst hm
    have h64 : (64 : Int) < (len : Int) := by omega
    have HE2 := Lib.hid (show wrE D k len = 41 by rw [HE.out, if_neg (by simp), if_pos (by omega)])
    clear hno HE
    go_enter Try.func16, Try.ntmps16
    go_wp2_with fail
    refine C1.out.mono ?_
    rintro e w1 ⟨rfl, rfl⟩
    go_wp2
    go_ret
    exact ⟨congrArg (fun x => Ending.returned (Value.int .i64 x)) HE2.out.symm, rfl⟩
  · have HE2 := Lib.hid (show wrE D k len = e0 by rw [HE.out, if_pos hm])
    have hne : (e0 != 0) = true := by simpa using hm
    clear hno HE hm
    go_enter Try.func16, Try.ntmps16
    go_wp2_with fail
    refine C1.out.mono ?_
    rintro e w1 ⟨rfl, rfl⟩
    go_wp2
    go_ret
    exact ⟨congrArg (fun x => Ending.returned (Value.int .i64 x)) HE2.out.symm, rfl⟩
theorem sets_secs {l : List Sec} (h : Full l) (k : Nat) (s : Sec) (hk : k < l.length) (hs : s.length = 64) : (secCells l).take (k * 64) ++ bc s ++ (secCells l).drop (k * 64 + (bc s).length) = secCells (l.set k s) := by
  unfold secCells
  rw [fm_set bc 64 l h.bc k s hk, bc_len, hs]
/-- the sector is set. -/
theorem Dsk.setNow {g c : Nat} (h : Dsk w base n V D) (hg : Good D) (hV : V.n = .slice (some ⟨g, 0, none⟩) D.now.length c) (k : Nat) (s : Sec) (hk : k < D.now.length) (hs : s.length = 64) : Dsk (w.setCells g (k * 64) (bc s)) base n V { D with now := D.now.set k s } := by
  have hne : g ≠ n := fun e => h.nn (by rw [hV, e]; rfl)
  refine ⟨(setCells_other g _ _ w n (Ne.symm hne)).trans h.box, ?_, ?_, ?_, h.hn, h.ne⟩
  · have h1 := h.rn
    rw [hV] at h1 ⊢
    have := own_sets (bc s) (k * 64) w (secCells D.now) h1 (by rw [bc_len, hs]; omega)
    rw [sets_secs hg.fulln k s hk hs] at this
    simpa [List.length_set] using this
  · exact own_stays h.rf fun b hb => setCells_other g _ _ w b (fun e => h.ne g (by rw [hV]; rfl) (e ▸ hb))
  · exact own_stays h.rw fun b hb => setCells_other g _ _ w b (fun e => own_own_ne h.rn h.rw (by decide) g (by rw [hV]; rfl) (e ▸ hb))
theorem touch_sets {S : Nat → Prop} (h : Touch S w w') {g : Nat} (hg : S g) (o : Nat) (vs : List Value) : Touch S w (w'.setCells g o vs) := by
  induction vs generalizing o w' with
  | nil => exact h
  | cons v vs ih => exact ih (h.setCell (p := ⟨g, o, none⟩) hg v) _
theorem wcells_snoc (l : List Wr) (x : Wr) : wCells (l ++ [x]) = wCells l ++ wc x := by simp [wCells]
theorem now_there {m c k : Nat} {ad : Option Addr} {l : List Sec} {e : TypeId} (h : w.ownsRow base e 64 (.slice ad m c) m (secCells l)) (hf : Full l) (hk : k < l.length) (hm : l.length = m) {g : Nat} (hg : ad = some ⟨g, 0, none⟩) : w.there g (k * 64) 64 := by
  subst hg
  intro j hj
  refine ⟨?_, own_free h _⟩
  obtain ⟨g', hg', _, _, hc⟩ := own_at h 0 (by omega)
  obtain rfl : g = g' := by simpa using hg'
  have hl := fm_len bc 64 l hf.bc
  have : k * 64 + j < (secCells l).length := by unfold secCells; rw [hl]; omega
  rw [hc _ _ (List.getElem?_eq_getElem this)]; rfl
theorem isz68' : (Try.prog.info? 83).map (fun i => (i.zero, i.size, i.bytes)) = some (some (.agg ztail.toArray), 65, 72) := by kernel_rfl
theorem wsrc (w : World) (x : Wr) (hx : x.2.length = 64) : Src (w.alloc (.cells (wc x).toArray 83)) (some ⟨w.heap.size, 0, none⟩) 1 65 (wc x) := by
  refine ⟨by rw [wc_len, hx], wc_one x, .inr ⟨_, rfl, fun j u hu => ?_⟩⟩
  rw [Addr.add_lit, Nat.zero_add, (Box.new w 83 (wc x).toArray).cell j]
  simpa using hu
theorem box_range {m : Nat} {T : TypeId} {l : List Value} (h : Box w m T l.toArray) : w.rangeAt m 0 l := fun j v hj => by rw [Nat.zero_add, h.cell j]; simpa using hj
theorem exec_build {op : Oper} {a : Act} {w : World} (t : TypeId) (parts : Array (Nat × Operand)) (ho : op.op = .build t parts) (v : Value) (ps : Array (Nat × Value)) (hp : (parts.map fun (i, x) => (i, a.eval x)) = ps) (h : (Instr.build t ps).run Try.prog w = .ok v w) : (execOp a.eval op).run Try.prog w = .ok (.value v) w := by
  unfold execOp
  simp only [ho, Sem.run_bind, hp, h, Result.andThen_ok, Sem.run_pure]
theorem wpList_bs {w : World} {ops : Array Oper} {rest : List Oper} {o : Oper} {a : Act} {Q : Exit → Act → World → Prop} (hg : o.guard = none) (t : TypeId) (len : Nat) (parts : Array (Nat × Operand)) (ho : o.op = .buildSlice t len parts) (v : Value) (w' : World)
    (ps : Array (Nat × Value)) (hp : (parts.map fun (i, x) => (i, a.eval x)) = ps) (hr : (Instr.buildSlice t len ps).run Try.prog w = .ok v w') (h : wpList Try.prog ops Q rest (a.put o.dst v) w') : wpList Try.prog ops Q (o :: rest) a w :=
  wpList_plain hg fun _ hK => by
    unfold Oper.wp execOp
    simp only [ho, Sem.run_bind, hp, hr, Result.andThen_ok, Sem.run_pure]
    exact hK _ _ h
theorem put_none (a : Act) (v : Value) : a.put none v = a := rfl
theorem exec_load_mid {op : Oper} {a : Act} {w : World} (ty : TypeId) (x : Operand) (ho : op.op = .load ty x)
    (b o : Nat) (hx : a.eval x = .pointer (some ⟨b, o, none⟩)) (cs : List Value) (d : TypeDesc) (hc : w.rangeAt b o cs)
    (hu : Try.prog.underlying ty = some d) (hd : d.isRow = true) (hi : (Try.prog.info? ty).map (·.size) = some cs.length) : (execOp a.eval op).run Try.prog w = .ok (.value (.agg cs.toArray)) w := by
  unfold execOp
  simp only [ho, hx, Instr.loadAt, Instr.sureAddr, Sem.run_bind, Sem.run_pure, Result.andThen_ok, run_loadVar_mid w b o ty cs d hc hu hd hi]
theorem Goes.alloc (h : Goes w w' n V V') (o : Obj) : Goes w (w'.alloc o) n V V' := ⟨h.touch.alloc o, h.lies⟩
theorem Goes.drew (h : Goes w w' n V V') : Goes w w'.drew n V V' := ⟨h.touch.drew, h.lies⟩
set_option maxHeartbeats 2000000 in
set_option maxRecDepth 100000 in
theorem write_ok (k : Nat) (b : Sec) (ad : Option Addr) (len cap : Nat) (h : Dsk w base n V D) (hb : base ≤ w.heap.size) (hg : Good D) (hB : Bys w ad len b) (h64 : len ≤ 64) (hm : mayE D k = 0) (hwl : D.wait.length ≤ 1000000) :
    Calls Try.prog 16 #[.pointer (some ⟨n, 0, none⟩), .int .i64 (k : Int), .slice ad len cap] w fun e w' => e = .returned (.int .i64 (if diesB D then 40 else 0)) ∧ ∃ V', Dsk w' base n V' (diesD (putD D k (pad b))) ∧ Goes w w' n V V' := by
  obtain ⟨r, hr⟩ : ∃ r : Int, r = (if diesB D = true then 40 else 0) := ⟨_, rfl⟩
  rw [← hr]
  have HRR := Lib.hid hr
  clear hr
  have C1 := may_any k h hg.many
  rw [hm] at C1
  have C1 := Lib.hid C1
  obtain ⟨_, _, hk⟩ := may_zero hm
  have hk' : k < D.now.length := by omega
  have HCP := copy_in w hB h64 cap
  have hsl := pad_len (b := b) (by have := hB.1; omega)
  obtain ⟨s, hs⟩ : ∃ s, s = pad b := ⟨_, rfl⟩
  rw [← hs] at HCP hsl ⊢
  have HSL := Lib.hid hsl
  have HSZ := Lib.hid (show (Try.prog.info? 81).map (·.size) = some (bc s).length by rw [bc_len, hsl]; exact isz63)
  have HSA := Lib.hid (show (Try.prog.info? 81).map (·.size) = some (bc s).toArray.size by rw [List.size_toArray]; exact HSZ.out)
  have HONE := Lib.hid (all_oneCell_toArray (bc_one s))
  obtain ⟨an, c, hVn, hc⟩ := own_shape h.rn
  obtain ⟨aw, cw, hVw, hcw⟩ := own_shape h.rw
  obtain ⟨nn, nf, nw⟩ := V
  simp only at hVn hVw
  subst hVn hVw
  obtain ⟨g, rfl, hgb, hgl, _⟩ := own_at h.rn 0 (by omega)
  have HM := Lib.hid (Box.new w 81 (bc s).toArray)
  have HD := Lib.hid (h.alloc (.cells (bc s).toArray 81))
  have HD0 := Lib.hid h
  have HGO := Lib.hid ((Goes.refl w n ⟨.slice (some ⟨g, 0, none⟩) D.now.length c, nf, .slice aw D.wait.length cw⟩).alloc (.cells (bc s).toArray 81))
  have HBS := Lib.hid (show base ≤ (w.alloc (.cells (bc s).toArray 81)).heap.size by simp; omega)
  have HCP' : (Builtin.copy_ #[32, 32] 3 #[.slice (some ⟨w.heap.size, 0, none⟩) 64 64, .slice ad len cap]).run Try.prog (w.alloc (.cells #[.int .u8 0, .int .u8 0, .int .u8 0, .int .u8 0, .int .u8 0, .int .u8 0, .int .u8 0, .int .u8 0, .int .u8 0, .int .u8 0, .int .u8 0, .int .u8 0, .int .u8 0, .int .u8 0, .int .u8 0, .int .u8 0, .int .u8 0, .int .u8 0, .int .u8 0, .int .u8 0, .int .u8 0, .int .u8 0, .int .u8 0, .int .u8 0, .int .u8 0, .int .u8 0, .int .u8 0, .int .u8 0, .int .u8 0, .int .u8 0, .int .u8 0, .int .u8 0, .int .u8 0, .int .u8 0, .int .u8 0, .int .u8 0, .int .u8 0, .int .u8 0, .int .u8 0, .int .u8 0, .int .u8 0, .int .u8 0, .int .u8 0, .int .u8 0, .int .u8 0, .int .u8 0, .int .u8 0, .int .u8 0, .int .u8 0, .int .u8 0, .int .u8 0, .int .u8 0, .int .u8 0, .int .u8 0, .int .u8 0, .int .u8 0, .int .u8 0, .int .u8 0, .int .u8 0, .int .u8 0, .int .u8 0, .int .u8 0, .int .u8 0, .int .u8 0] 81)) = .ok (goInt len) (w.alloc (.cells (bc s).toArray 81)) := HCP
  have h64' : ¬ (64 : Int) < (len : Int) := by omega
  have HG := Lib.hid hg
  have HWL := Lib.hid hwl
  clear h hs hsl hm hk hB HCP hcw hc hb hg hwl
  go_enter Try.func16, Try.ntmps16
  go_wp2_with fail
  refine C1.out.mono ?_
  rintro e w0 ⟨rfl, rfl⟩
  clear C1
  go_wp2_with fail
  generalize w.alloc (.cells (bc s).toArray 81) = w1 at HM HD HGO HBS ⊢
  refine wp_region_phase (fun w' => Box w' n 78 #[.slice (some ⟨g, 0, none⟩) D.now.length c, nf, .slice aw D.wait.length cw, .int .i64 D.armed, .bool D.dead] ∧ Box w' w.heap.size 81 (bc s).toArray) [true, true, true, true, true, true, false, false] 7 _ _ _ (by kernel_rfl) rfl rfl (by kernel_rfl) rfl rfl (fun _ _ _ _ _ h => h) (⟨HD.out.box.drew, HM.out.drew⟩) ?_
  intro S HS
  simp only [taken, leftOut]
  go_big_quiet_want; go_big_quiet_op; go_big_quiet_on
  go_big_quiet_want; apply quiet_value; (· (intro w' hw; have hbx := ((HS.out _).1 hw).1; have c0 : w'.cell? ⟨n, 0, none⟩ = some (.slice (some ⟨g, 0, none⟩) D.now.length c) := hbx.cell 0; have hn := hbx.lt; go_simp; try rfl)); simp only [Act.put, List.setIfInBounds_toArray, List.set_cons_succ, List.set_cons_zero]; go_big_quiet_on
  go_big_quiet_want; apply quiet_value; (· (intro w' hw; have hbx := ((HS.out _).1 hw).1; have c0 : w'.cell? ⟨n, 0, none⟩ = some (.slice (some ⟨g, 0, none⟩) D.now.length c) := hbx.cell 0; have hn := hbx.lt; go_simp; try rfl)); simp only [Act.put, List.setIfInBounds_toArray, List.set_cons_succ, List.set_cons_zero]; go_big_quiet_on
  go_big_quiet_want; apply quiet_value; (· (intro w' hw; have hbx := ((HS.out _).1 hw).1; have c0 : w'.cell? ⟨n, 0, none⟩ = some (.slice (some ⟨g, 0, none⟩) D.now.length c) := hbx.cell 0; have hn := hbx.lt; go_simp; try rfl)); simp only [Act.put, List.setIfInBounds_toArray, List.set_cons_succ, List.set_cons_zero]; go_big_quiet_on
  go_big_quiet_want; go_big_quiet_op; go_big_quiet_on
  go_big_quiet_want; apply quiet_value; (· (intro w' hw; exact exec_load_mid 81 (.tmp 8) rfl w.heap.size 0 rfl (bc s) _ (box_range ((HS.out _).1 hw).2) Try.underlying81 rfl HSZ.out)); simp only [Act.put, List.setIfInBounds_toArray, List.set_cons_succ, List.set_cons_zero]; go_big_quiet_on
  refine wpQuiet_nil ?_
  refine wpTail_more ?_
  have hki : (k : Int) < (D.now.length : Int) := by omega
  go_wp2_with fail
  refine ThenS.mk ((HS.out _).2 ⟨HD.out.box.drew, HM.out.drew⟩) ?_
  refine wpTail_last ?_
  have HTH : Hid (w1.drew.there g (k * 64) (bc s).toArray.size) := by rw [List.size_toArray, bc_len, HSL.out]; exact now_there HD.out.drew.rn HG.out.fulln hk' rfl rfl
  go_wp2_with (with_reducible refine wpList_store_mid rfl 81 (.tmp 29) (.tmp 28) rfl g (k * 64) (bc s).toArray rfl rfl HTH.out HSA.out HONE.out ?_)
  have HD2 := Lib.hid (HD.out.drew.setNow HG.out rfl k s hk' HSL.out)
  have HGO2 := Lib.hid ((⟨touch_sets HGO.out.drew.touch (.inr (.inl rfl)) _ _, HGO.out.drew.lies⟩ : Goes w (w1.drew.setCells g (k * 64) (bc s)) n ⟨.slice (some ⟨g, 0, none⟩) D.now.length c, nf, .slice aw D.wait.length cw⟩ ⟨.slice (some ⟨g, 0, none⟩) D.now.length c, nf, .slice aw D.wait.length cw⟩))
  have HM2 := Lib.hid (show Box (w1.drew.setCells g (k * 64) (bc s)) w.heap.size 81 (bc s).toArray from (setCells_other g _ _ w1.drew w.heap.size (by omega)).trans HM.out)
  have HBS2 := Lib.hid (show base ≤ (w1.drew.setCells g (k * 64) (bc s)).heap.size by rw [setCells_size]; exact HBS.out)
  go_wp2_with fail
  simp only [put_none]
  generalize w1.drew.setCells g (k * 64) (bc s) = w2 at HD2 HM2 HGO2 HBS2 ⊢
  clear HTH HM HD HGO HBS
  have hbs : ∀ w, (Instr.buildSlice 76 1 #[(0, .agg (wc (k, s)).toArray)]).run Try.prog w = .ok (.slice (some ⟨w.heap.size, 0, none⟩) 1 1) (w.alloc (.cells (wc (k, s)).toArray 83)) := fun w => buildS_w (k, s) HSL.out w
  refine wp_region_phase (fun w' => Box w' n 78 #[.slice (some ⟨g, 0, none⟩) D.now.length c, nf, .slice aw D.wait.length cw, .int .i64 D.armed, .bool D.dead] ∧ Box w' w.heap.size 81 (bc s).toArray) [true, true, true, true, true, true, true, true, false, false, false, false, false] 12 _ _ _ (by kernel_rfl) rfl rfl (by kernel_rfl) rfl rfl (fun _ _ _ _ _ h => h) (⟨HD2.out.box.drew, HM2.out.drew⟩) ?_
  intro S HS
  simp only [taken, leftOut]
  go_big_quiet_want; go_big_quiet_op; go_big_quiet_on
  go_big_quiet_want; go_big_quiet_op; go_big_quiet_on
  go_big_quiet_want; apply quiet_value; (· (intro w' hw; have hbx := ((HS.out _).1 hw).1; have c2 : w'.cell? ⟨n, 2, none⟩ = some (.slice aw D.wait.length cw) := hbx.cell 2; have hn := hbx.lt; go_simp; try rfl)); simp only [Act.put, List.setIfInBounds_toArray, List.set_cons_succ, List.set_cons_zero]; go_big_quiet_on
  go_big_quiet_want; apply quiet_value; (· (intro w' hw; have hbx := ((HS.out _).1 hw).1; have c2 : w'.cell? ⟨n, 2, none⟩ = some (.slice aw D.wait.length cw) := hbx.cell 2; have hn := hbx.lt; go_simp; try rfl)); simp only [Act.put, List.setIfInBounds_toArray, List.set_cons_succ, List.set_cons_zero]; go_big_quiet_on
  go_big_quiet_want; apply quiet_value; (· (intro w' hw; have hbx := ((HS.out _).1 hw).1; have c2 : w'.cell? ⟨n, 2, none⟩ = some (.slice aw D.wait.length cw) := hbx.cell 2; have hn := hbx.lt; go_simp; try rfl)); simp only [Act.put, List.setIfInBounds_toArray, List.set_cons_succ, List.set_cons_zero]; go_big_quiet_on
  go_big_quiet_want; go_big_quiet_op; go_big_quiet_on
  go_big_quiet_want; apply quiet_value; (· (intro w' hw; exact exec_load_mid 81 (.tmp 8) rfl w.heap.size 0 rfl (bc s) _ (box_range ((HS.out _).1 hw).2) Try.underlying81 rfl HSZ.out)); simp only [Act.put, List.setIfInBounds_toArray, List.set_cons_succ, List.set_cons_zero]; go_big_quiet_on
  go_big_quiet_want; apply quiet_value; (· (intro w' hw; exact exec_build 83 #[(0, .tmp 35), (1, .tmp 36)] rfl _ _ (by simp only [List.map_toArray, List.map_cons, List.map_nil]; rfl) (build_w (k, s) HSL.out w'))); simp only [Act.put, List.setIfInBounds_toArray, List.set_cons_succ, List.set_cons_zero]; go_big_quiet_on
  refine wpQuiet_nil ?_
  refine wpTail_more ?_
  refine wpList_bs rfl 76 1 #[(0, .tmp 37)] rfl _ _ #[(0, .agg (wc (k, s)).toArray)] (by simp only [List.map_toArray, List.map_cons, List.map_nil]; rfl) (hbs _) ?_
  simp only [Act.put, List.setIfInBounds_toArray, List.set_cons_succ, List.set_cons_zero]
  go_wp2_with fail
  have HD3 := Lib.hid (HD2.out.drew.alloc (.cells (wc (k, s)).toArray 83))
  have HM3 := Lib.hid (HM2.out.drew.alloc (.cells (wc (k, s)).toArray 83))
  have HGO3 := Lib.hid (HGO2.out.drew.alloc (.cells (wc (k, s)).toArray 83))
  have HBS3 := Lib.hid (show base ≤ (w2.drew.alloc (.cells (wc (k, s)).toArray 83)).heap.size by have := HBS2.out; simp; omega)
  have HSR := Lib.hid (wsrc w2.drew (k, s) HSL.out)
  refine ThenS.mk ((HS.out _).2 ⟨HD3.out.box, HM3.out⟩) ?_
  refine wpTail_more ?_
  obtain ⟨i0, hi, hz0, hz1, hz2⟩ := info_parts isz68'
  have HI := Lib.hid hi
  have HZZ := Lib.hid hz0
  clear hi hz0 hbs
  have ho3 := HD3.out.rw
  generalize w2.drew.alloc (.cells (wc (k, s)).toArray 83) = w3 at HD3 HM3 HGO3 HBS3 HSR ho3 ⊢
  have HO3 := Lib.hid ho3
  clear ho3
  go_wp2_with (at_builtin; refine wpList_append_at rfl (.tmp 34) (.tmp 38) 76 rfl base 83 i0 (.agg ztail.toArray) 65 72 Try.underlying76 HI.out HZZ.out hz1 hz2 rfl (by decide) _ _ _ rfl HO3.out _ _ _ _ rfl HSR.out ?c2 ?c3 ?c4 ?_)
  case c2 => have := HWL.out; simp only [maxLen]; omega
  case c3 => have := HWL.out; omega
  case c4 => exact HBS3.out
  intro v4 w4 own4 g4 at4
  obtain ⟨ad4, c4, rfl, hc4⟩ := own_shape own4
  have own4' : w4.ownsRow base 83 65 (.slice ad4 (D.wait.length + 1) c4) (D.wait ++ [(k, s)]).length (wCells (D.wait ++ [(k, s)])) := by rw [wcells_snoc, List.length_append]; exact own4
  have hnw := HD3.out.nw
  have hxm : some w.heap.size ≠ (Value.slice aw D.wait.length cw).ownBlock := fun e => by
    have := HD0.out.of_lt w.heap.size (.inr (.inr (.inr e.symm)))
    omega
  have HN4 := Lib.hid (HD3.out.box.grown g4 (fun e => hnw e.symm))
  have HM4 := Lib.hid (HM3.out.grown g4 hxm)
  have HL4 := Lib.hid (show ∀ i, (Value.slice ad4 (D.wait.length + 1) c4).ownBlock = some i → (Value.slice aw D.wait.length cw).ownBlock = some i ∨ w3.heap.size ≤ i from fun i hi => by
    rcases at4 with h1 | h1
    · exact .inl (h1 ▸ hi)
    · rw [h1] at hi; obtain rfl : w3.heap.size = i := by simpa using hi
      exact .inr (Nat.le_refl _))
  have HD4 : Hid (Dsk (w4.setCell ⟨n, 2, none⟩ (.slice ad4 (D.wait.length + 1) c4)) base n ⟨.slice (some ⟨g, 0, none⟩) D.now.length c, nf, .slice ad4 (D.wait.length + 1) c4⟩ (putD D k s)) := by
    have hne := own_box_ne own4' HN4.out (by decide)
    refine ⟨HN4.out.set 2 _, ?_, ?_, ?_, HD0.out.hn, HD0.out.ne⟩
    · refine own_stays HD3.out.rn fun i hi => (Below.heap_setCell _ _ _ _ (fun e => HD3.out.nn (hi.trans (congrArg some e)))).trans (g4.block i (own_lt HD3.out.rn i hi) (fun e => own_own_ne HD3.out.rn HD3.out.rw (by decide) i hi e.symm))
    · refine own_stays HD3.out.rf fun i hi => (Below.heap_setCell _ _ _ _ (fun e => HD3.out.nf (hi.trans (congrArg some e)))).trans (g4.block i (own_lt HD3.out.rf i hi) (fun e => own_own_ne HD3.out.rf HD3.out.rw (by decide) i hi e.symm))
    · exact own_stays own4' fun i hi => Below.heap_setCell _ _ _ _ (fun e => hne (hi.trans (congrArg some e)))
  have HG4 : Hid (Goes w (w4.setCell ⟨n, 2, none⟩ (.slice ad4 (D.wait.length + 1) c4)) n ⟨.slice (some ⟨g, 0, none⟩) D.now.length c, nf, .slice aw D.wait.length cw⟩ ⟨.slice (some ⟨g, 0, none⟩) D.now.length c, nf, .slice ad4 (D.wait.length + 1) c4⟩) := by
    refine ⟨(HGO3.out.touch.grown g4 (fun i hi => .inl (.inr (.inr (.inr hi))))).setCell (.inl rfl) _, fun i hi => ?_⟩
    rcases hi with h1 | h1 | h1 | h1
    · exact .inl (.inl h1)
    · exact .inl (.inr (.inl h1))
    · exact .inl (.inr (.inr (.inl h1)))
    · rcases HL4.out i h1 with h2 | h2
      · exact .inl (.inr (.inr (.inr h2)))
      · exact .inr (Nat.le_trans HGO3.out.touch.size h2)
  clear own4 own4' g4 at4 hxm hnw
  have f2 := HN4.out.frozen 2
  have c2 : w4.cell? ⟨n, 2, none⟩ = some (.slice aw D.wait.length cw) := HN4.out.cell 2
  have hn := HN4.out.lt
  go_wp2_with fail
  refine ThenS.mk ((HS.out _).2 ⟨HN4.out, HM4.out⟩) ?_
  refine wpTail_more ?_
  go_wp2_with fail
  refine ThenS.mk ((HS.out _).2 ⟨HN4.out, HM4.out⟩) ?_
  refine wpTail_more ?_
  go_wp2_with fail
  refine ThenS.mk ((HS.out _).2 ⟨HN4.out, HM4.out⟩) ?_
  refine wpTail_last ?_
  go_wp2_with fail
  have C5 := Lib.hid (dies_any HD4.out (by simp only [putD]; exact HG.out.arm))
  generalize w4.setCell ⟨n, 2, none⟩ (.slice ad4 (D.wait.length + 1) c4) = w5 at HD4 HG4 C5 ⊢
  clear f2 c2 hn
  refine C5.out.mono ?_
  rintro e w6 ⟨rfl, HD6, HG6⟩
  obtain ⟨q, hq⟩ : ∃ q, q = diesB D := ⟨_, rfl⟩
  have hq' : diesB (putD D k s) = q := by rw [hq]; rfl
  rw [hq']
  have HQ := Lib.hid hq
  have HD6 := Lib.hid HD6
  have HG6 := Lib.hid HG6
  clear hq hq' C5
  cases q <;>
  · go_wp2
    go_ret
    exact ⟨by rw [HRR.out, ← HQ.out]; rfl, _, HD6.out, HG4.out.trans HG6.out⟩
theorem write_any (k : Int) (b : Sec) (ad : Option Addr) (len cap : Nat) (h : Dsk w base n V D) (hb : base ≤ w.heap.size) (hg : Good D) (hB : Bys w ad len b) (hwl : D.wait.length ≤ 1000000) :
    Calls Try.prog 16 #[.pointer (some ⟨n, 0, none⟩), .int .i64 k, .slice ad len cap] w fun e w' => e = .returned (.int .i64 (wrE D k len)) ∧ ∃ V', Dsk w' base n V' (wrD D k b) ∧ Goes w w' n V V' := by
  by_cases hno : mayE D k ≠ 0 ∨ 64 < len
  · refine (write_no k ad len cap h hg hB.2.1 hno).mono fun e w' ⟨he, hw⟩ => ⟨he, V, ?_, ?_⟩
    · unfold wrD; rw [if_pos (by rw [hB.1]; exact hno), ← hw]; exact h
    · rw [← hw]; exact Goes.refl _ _ _
  · have hm : mayE D k = 0 := by
      rcases Classical.em (mayE D k = 0) with h | h
      · exact h
      · exact absurd (.inl h) hno
    obtain ⟨_, h0, _⟩ := may_zero hm
    obtain ⟨k, rfl⟩ := Int.eq_ofNat_of_zero_le h0
    have h64 : len ≤ 64 := Nat.not_lt.1 fun h => hno (.inr h)
    refine (write_ok k b ad len cap h hb hg hB h64 hm hwl).mono fun e w' ⟨he, V', hD, hG⟩ => ⟨?_, V', ?_, hG⟩
    · have : wrE D k len = if diesB D then 40 else 0 := by unfold wrE; rw [if_neg (fun h => h hm), if_neg (by omega)]
      rw [he, this]
    · unfold wrD; rw [if_neg (by rw [hB.1]; exact hno)]; exact hD
end Go.Proofs.Ytdiboicllolcnaa
