/- watcher: a call on a table and on the document's list. Conditions: both lie in the call's own memory, they rise. -/
import Derived.Test.YtmcjpochpmiipaaDoorVl
namespace Go.Proofs.YtmcjpochpmiipaaDoor
open Go Go.RowKit Zn
set_option linter.unusedVariables false
set_option linter.unusedSimpArgs false
variable {w w' : World} {base n : Nat} {v : Value} {L : List Wt}

abbrev Op9 := Int × Int × Wt × Ev
def opv (o : Op9) : Value := .agg #[.int .i64 o.1, .int .i64 o.2.1, .int .i64 o.2.2.1.1, .string o.2.2.1.2.1, .bool o.2.2.1.2.2, .int .i64 o.2.2.2.1, .int .i64 o.2.2.2.2.1, .string o.2.2.2.2.2]
def stepL (L : List Wt) (o : Op9) : List Wt := if o.1 = 0 then addL L o.2.2.1 else if o.1 = 1 then fireL o.2.2.2.2.1 o.2.2.2.2.2 L else if o.1 = 2 then dropL o.2.1 L else L
/-- a list as a table has it. -/
def Good (L : List Wt) : Prop := Rises L ∧ L.length ≤ 500
theorem good_nil : Good [] := ⟨List.Pairwise.nil, by simp⟩
theorem Good.filter (h : Good L) (f : Wt → Bool) : Good (L.filter f) := ⟨h.1.filter _, Nat.le_trans (List.length_filter_le _ _) h.2⟩
theorem Good.ins (h : Good L) (x : Wt) (hi : isIn L x = false) (hl : L.length < 500) : Good (insL L x) := by
  refine ⟨?_, by unfold insL; rw [List.length_append, List.length_take, List.length_cons, List.length_drop]; have := kOf_le L x; omega⟩
  unfold insL
  have hlo : ∀ p ∈ L.take (kOf L x), Lt p x := by
    intro p hp
    obtain ⟨i, hi, e⟩ := List.getElem_of_mem hp
    rw [List.length_take] at hi
    rw [List.getElem_take] at e
    exact (kOf_lt h.1 (k := i) (by rw [List.getElem?_eq_getElem (by omega), e])).2 (by omega)
  have hhi : ∀ p ∈ L.drop (kOf L x), Lt x p := by
    intro p hp
    obtain ⟨i, hil, e⟩ := List.getElem_of_mem hp
    rw [List.length_drop] at hil
    rw [List.getElem_drop] at e
    have h1 : ¬ Lt p x := fun k => by
      have := (kOf_lt h.1 (k := kOf L x + i) (by rw [List.getElem?_eq_getElem (by omega), e])).1 k
      omega
    rcases Lt.total x p with h2 | h2 | h2
    · exact h2
    · exfalso
      have : isIn L x = true := (isIn_iff L x).2 (by rw [h2, ← e]; exact List.getElem_mem _)
      rw [hi] at this; cases this
    · exact absurd h2 h1
  show List.Pairwise Lt _
  rw [List.pairwise_append]
  refine ⟨h.1.sublist (List.take_sublist _ _), List.pairwise_cons.2 ⟨hhi, h.1.sublist (List.drop_sublist _ _)⟩, fun a ha b hb => ?_⟩
  rcases List.mem_cons.1 hb with rfl | hb
  · exact hlo a ha
  · exact (hlo a ha).trans (hhi b hb)
theorem Good.add (h : Good L) (x : Wt) : Good (addL L x) := by
  unfold addL
  split
  · rename_i hc
    simp only [Bool.and_eq_true, Bool.not_eq_true', decide_eq_true_eq] at hc
    exact h.ins x hc.1.2 hc.2
  · exact h
theorem Good.step (h : Good L) (o : Op9) : Good (stepL L o) := by
  unfold stepL
  split
  · exact h.add _
  · split
    · exact h.filter _
    · split
      · exact h.filter _
      · exact h
/-- what a step leaves: bm is where the document's lists begin. -/
def Stepped (w : World) (base bm n : Nat) (v : Value) (L M : List Wt) (o : Op9) (e : Ending) (w' : World) : Prop :=
  ∃ v' vm b, e = .returned (.tuple #[vm, .bool b]) ∧ Tab w' base n v' (stepL L o) ∧ Goes w w' n v v' ∧ w'.ownsRow bm 29 3 vm (stepL M o).length (cellsOf (stepL M o)) ∧ (M = L → b = true)
theorem Goes.below_r {a b c : World} {v v' : Value} (h : Goes a b n v v') (k : Below b.heap.size b c) : Goes a c n v v' := by
  have := h.trans (Goes.of_below (n := n) (v := v') k)
  exact this
theorem Goes.below_l {a b c : World} {v v' : Value} (k : Below a.heap.size a b) (h : Goes b c n v v') : Goes a c n v v' := (Goes.of_below (n := n) (v := v) k).trans h
theorem doc_keeps {bm : Nat} {M : List Wt} {vm v' : Value} (h : w.ownsRow bm 29 3 vm M.length (cellsOf M)) (ht : Tab w base n v L) (hg : Goes w w' n v v') : w'.ownsRow bm 29 3 vm M.length (cellsOf M) := by
  refine own_stays h (fun i hi => hg.touch.block i (own_lt h i hi) ?_)
  rintro (rfl | ho)
  · exact own_box_ne h ht.box (by decide) hi
  · exact own_ne h ht.row (by decide) i hi ho
set_option maxRecDepth 4000 in
set_option maxHeartbeats 2000000 in
theorem does_any {bm : Nat} {M : List Wt} (o : Op9) (ad : Option Addr) (c : Nat) (h : Tab w base n v L) (hm : w.ownsRow bm 29 3 (.slice ad M.length c) M.length (cellsOf M)) (hb : base ≤ w.heap.size) (hbm : bm ≤ w.heap.size) (h0 : 0 < base) (hL : Good L) (hM : Good M) (hx : Mx w) (hz : o.2.2.1.2.1.size ≤ 4194304) :
    Calls Tryd.prog 14 #[.pointer (some ⟨n, 0, none⟩), .slice ad M.length c, opv o] w (Stepped w base bm n v L M o) := by
  obtain ⟨k, m, p, e⟩ := o
  simp only at hz
  have HX := Lib.hid (Box.new w 38 #[.int .i64 k, .int .i64 m, .int .i64 p.1, .string p.2.1, .bool p.2.2, .int .i64 e.1, .int .i64 e.2.1, .string e.2.2])
  have B0 := Lib.hid ((Below.refl w.heap.size w).alloc (Nat.le_refl _) (.cells #[.int .i64 k, .int .i64 m, .int .i64 p.1, .string p.2.1, .bool p.2.2, .int .i64 e.1, .int .i64 e.2.1, .string e.2.2] 38))
  have HT0 := Lib.hid (h.alloc (.cells #[.int .i64 k, .int .i64 m, .int .i64 p.1, .string p.2.1, .bool p.2.2, .int .i64 e.1, .int .i64 e.2.1, .string e.2.2] 38))
  have HM0 := Lib.hid (own_below hm ((Below.refl w.heap.size w).alloc (Nat.le_refl _) (.cells #[.int .i64 k, .int .i64 m, .int .i64 p.1, .string p.2.1, .bool p.2.2, .int .i64 e.1, .int .i64 e.2.1, .string e.2.2] 38)) (Nat.le_refl _))
  have HMX := Lib.hid (hx.below ((Below.refl w.heap.size w).alloc (Nat.le_refl _) (.cells #[.int .i64 k, .int .i64 m, .int .i64 p.1, .string p.2.1, .bool p.2.2, .int .i64 e.1, .int .i64 e.2.1, .string e.2.2] 38)))
  have hL2 := hL.2
  have hM2 := hM.2
  have HLR := Lib.hid hL.1
  have HMR := Lib.hid hM.1
  have HFIN := Lib.hid (show Stepped w base bm n v L M (k, m, p, e) = fun e1 w' => ∃ v' vm b, e1 = .returned (.tuple #[vm, .bool b]) ∧ Tab w' base n v' (stepL L (k, m, p, e)) ∧ Goes w w' n v v' ∧ w'.ownsRow bm 29 3 vm (stepL M (k, m, p, e)).length (cellsOf (stepL M (k, m, p, e))) ∧ (M = L → b = true) from rfl)
  have hs1 : (w.alloc (.cells #[.int .i64 k, .int .i64 m, .int .i64 p.1, .string p.2.1, .bool p.2.2, .int .i64 e.1, .int .i64 e.2.1, .string e.2.2] 38)).heap.size = w.heap.size + 1 := by simp
  have hb1 : base ≤ (w.alloc (.cells #[.int .i64 k, .int .i64 m, .int .i64 p.1, .string p.2.1, .bool p.2.2, .int .i64 e.1, .int .i64 e.2.1, .string e.2.2] 38)).heap.size := by omega
  have hbm1 : bm ≤ (w.alloc (.cells #[.int .i64 k, .int .i64 m, .int .i64 p.1, .string p.2.1, .bool p.2.2, .int .i64 e.1, .int .i64 e.2.1, .string e.2.2] 38)).heap.size := by omega
  clear h hm hx hL hM
  by_cases k0 : k = 0
  · subst k0
    have HSL := Lib.hid (show stepL L (0, m, p, e) = addL L p from rfl)
    have HSM := Lib.hid (show stepL M (0, m, p, e) = addL M p from rfl)
    have C1 := Lib.hid (radd_any p ad c HM0.out hbm1 HMR.out (by omega) hz)
    unfold opv
    unfold tv at C1
    go_enter Tryd.func14, Tryd.ntmps14
    go_wp2_with fail
    refine C1.out.mono ?_
    rintro r w1 ⟨vm, rfl, own1, b1⟩
    obtain ⟨adm, cm, rfl, _⟩ := own_shape own1
    have HX1 := Lib.hid (HX.out.below b1 (by omega))
    have B1 := Lib.hid (B0.out.trans (b1.mono B0.out.size))
    have HT1 := Lib.hid (HT0.out.below b1 (Nat.le_refl _))
    have HO1 := Lib.hid own1
    have p0 : w1.cell? ⟨w.heap.size, 2, none⟩ = some (.int .i64 p.1) := HX1.out.cell 2
    have p1 : w1.cell? ⟨w.heap.size, 3, none⟩ = some (.string p.2.1) := HX1.out.cell 3
    have p2 : w1.cell? ⟨w.heap.size, 4, none⟩ = some (.bool p.2.2) := HX1.out.cell 4
    have C2 := Lib.hid (add_any p HT1.out (Nat.le_trans hb1 b1.size) HLR.out (by omega) (HMX.out.below b1) hz)
    unfold tv at C2
    clear own1 b1 C1
    go_wp2_with fail
    refine C2.out.mono ?_
    rintro r w2 ⟨rfl, v2, t2, g2⟩
    go_wp2
    rw [HFIN.out]
    have HO2 := doc_keeps (by exact HO1.out) HT1.out g2
    exact ret_tt (x := .slice adm (addL M p).length cm) (y := .bool (addB L p == addB M p)) Tryd.results14 rfl rfl rfl ⟨v2, _, _, rfl, by rw [HSL.out]; exact t2, Goes.below_l B1.out g2, by rw [HSM.out]; exact HO2, fun e => by rw [e]; simp⟩
  by_cases k1 : k = 1
  · subst k1
    have HSL := Lib.hid (show stepL L (1, m, p, e) = fireL e.2.1 e.2.2 L from rfl)
    have HSM := Lib.hid (show stepL M (1, m, p, e) = fireL e.2.1 e.2.2 M from rfl)
    have C1 := Lib.hid (rfire_any e ad c HM0.out (by omega))
    obtain ⟨FM, hFM⟩ : ∃ FM, FM = fireL e.2.1 e.2.2 M := ⟨_, rfl⟩
    obtain ⟨TM, hTM⟩ : ∃ TM, TM = tev e.2.1 e.2.2 (rfired e.2.1 e.2.2 M) := ⟨_, rfl⟩
    obtain ⟨FL, hFL⟩ : ∃ FL, FL = fireL e.2.1 e.2.2 L := ⟨_, rfl⟩
    obtain ⟨EL, hEL⟩ : ∃ EL, EL = firedE e.2.1 e.2.2 L := ⟨_, rfl⟩
    have hfl : EL.length ≤ 1000 := by
      have h := fired_same e.2.1 e.2.2 L HLR.out
      have h1 := rfired_len e.2.1 e.2.2 L
      rw [hEL, firedE, List.length_map, ← h]; omega
    have HEQ := Lib.hid (show M = L → EL = TM from fun e1 => by subst e1; rw [hEL, hTM]; unfold firedE tev; rw [fired_same _ _ _ HLR.out])
    rw [← hFM, ← hTM] at C1
    rw [← hFL] at HSL
    rw [← hFM] at HSM
    have HFL := Lib.hid hFL
    have HEL := Lib.hid hEL
    clear hFM hTM hFL hEL
    unfold opv
    unfold ev at C1
    go_enter Tryd.func14, Tryd.ntmps14
    go_wp2_with fail
    refine C1.out.mono ?_
    rintro r w1 ⟨vm, vt, rfl, own1, ownt1, b1⟩
    obtain ⟨adm, cm, rfl, _⟩ := own_shape own1
    obtain ⟨adt, ct, rfl, _⟩ := own_shape ownt1
    have HX1 := Lib.hid (HX.out.below b1 (by omega))
    have B1 := Lib.hid (B0.out.trans (b1.mono B0.out.size))
    have HT1 := Lib.hid (HT0.out.below b1 (Nat.le_refl _))
    have HO1 := Lib.hid own1
    have HOT1 := Lib.hid ownt1
    have hsz1 := b1.size
    have p0 : w1.cell? ⟨w.heap.size, 5, none⟩ = some (.int .i64 e.1) := HX1.out.cell 5
    have p1 : w1.cell? ⟨w.heap.size, 6, none⟩ = some (.int .i64 e.2.1) := HX1.out.cell 6
    have p2 : w1.cell? ⟨w.heap.size, 7, none⟩ = some (.string e.2.2) := HX1.out.cell 7
    have C2 := Lib.hid (fire_any e HT1.out (Nat.le_trans hb1 b1.size) (by omega))
    rw [← HFL.out, ← HEL.out] at C2
    unfold ev at C2
    clear own1 ownt1 b1 C1
    go_wp2_with fail
    refine C2.out.mono ?_
    rintro r w2 ⟨vf, rfl, ownf, v2, t2, g2⟩
    obtain ⟨adf, cf, rfl, _⟩ := own_shape ownf
    have HT2 := Lib.hid t2
    have HG2 := Lib.hid g2
    have HO2 := Lib.hid (doc_keeps (M := FM) HO1.out HT1.out g2)
    have HOT2 := Lib.hid (own_stays HOT1.out (w' := w2) (fun i hi => g2.touch.block i (own_lt HOT1.out i hi) (by
      rintro (rfl | ho)
      · exact own_box_ne HOT1.out HT1.out.box (by decide) hi
      · exact own_ne HOT1.out HT1.out.row (by decide) i hi ho)))
    have C3 := Lib.hid (sameEv_any adf adt cf ct ownf HOT2.out hfl)
    clear ownf t2 g2 C2
    go_wp2_with fail
    refine C3.out.mono ?_
    rintro r w3 ⟨b, rfl, hbq, b3⟩
    have HBQ := Lib.hid hbq
    have B3 := Lib.hid b3
    clear hbq b3 C3
    go_wp2
    rw [HFIN.out]
    exact ret_tt (x := .slice adm FM.length cm) (y := .bool b) Tryd.results14 rfl rfl rfl ⟨v2, _, _, rfl, by rw [HSL.out]; exact HT2.out.below B3.out (Nat.le_refl _), (Goes.below_l B1.out HG2.out).below_r B3.out,
      by rw [HSM.out]; exact own_lower (own_below HO2.out B3.out (Nat.le_refl _)) (by omega), fun e1 => HBQ.out (HEQ.out e1)⟩
  by_cases k2 : k = 2
  · subst k2
    have HSL := Lib.hid (show stepL L (2, m, p, e) = dropL m L from rfl)
    have HSM := Lib.hid (show stepL M (2, m, p, e) = dropL m M from rfl)
    have C1 := Lib.hid (drop_any m HT0.out hb1 (by omega))
    unfold opv
    go_enter Tryd.func14, Tryd.ntmps14
    go_wp2_with fail
    refine C1.out.mono ?_
    rintro r w1 ⟨rfl, v1, t1, g1⟩
    have HT1 := Lib.hid t1
    have HG1 := Lib.hid g1
    have HO1 := Lib.hid (doc_keeps HM0.out HT0.out g1)
    have HX1 := Lib.hid (show Box w1 w.heap.size 38 #[.int .i64 2, .int .i64 m, .int .i64 p.1, .string p.2.1, .bool p.2.2, .int .i64 e.1, .int .i64 e.2.1, .string e.2.2] from (g1.touch.block w.heap.size (by omega) (by
      intro ho
      have := HT0.out.of_lt
      rcases ho with rfl | ho
      · exact absurd (HT0.out.box) (by intro h9; have h8 := HX.out; unfold Box at h8 h9; rw [h8] at h9; simp at h9)
      · exact own_box_ne HT0.out.row HX.out (by decide) ho)).trans HX.out)
    have p1 : w1.cell? ⟨w.heap.size, 1, none⟩ = some (.int .i64 m) := HX1.out.cell 1
    have C2 := Lib.hid (rdrop_any m ad c HO1.out (by omega))
    have hsz1 := g1.touch.size
    clear t1 g1 C1
    go_wp2_with fail
    refine C2.out.mono ?_
    rintro r w2 ⟨vm, rfl, own2, b2⟩
    obtain ⟨adm, cm, rfl, _⟩ := own_shape own2
    have HO2 := Lib.hid own2
    have B2 := Lib.hid b2
    clear own2 b2 C2
    go_wp2
    rw [HFIN.out]
    exact ret_tt (x := .slice adm (dropL m M).length cm) (y := .bool true) Tryd.results14 rfl rfl rfl ⟨v1, _, _, rfl, by rw [HSL.out]; exact HT1.out.below B2.out (Nat.le_refl _), (Goes.below_l B0.out HG1.out).below_r B2.out,
      by rw [HSM.out]; exact own_lower HO2.out (by omega), fun _ => rfl⟩
  have HSL := Lib.hid (show stepL L (k, m, p, e) = L by simp [stepL, k0, k1, k2])
  have HSM := Lib.hid (show stepL M (k, m, p, e) = M by simp [stepL, k0, k1, k2])
  have e0 : (k == 0) = false := by simpa using k0
  have e1 : (k == 1) = false := by simpa using k1
  have e2 : (k == 2) = false := by simpa using k2
  unfold opv
  go_enter Tryd.func14, Tryd.ntmps14
  go_wp2
  rw [HFIN.out]
  exact ret_tt (x := .slice ad M.length c) (y := .bool true) Tryd.results14 rfl rfl rfl ⟨v, _, _, rfl, by rw [HSL.out]; exact HT0.out, Goes.of_below B0.out, by rw [HSM.out]; exact HM0.out, fun _ => rfl⟩
end Go.Proofs.YtmcjpochpmiipaaDoor
