/- The document's net: a call on it. Conditions: its rows are the call's own. -/
import Derived.Test.YtejoggbebmmlkaaWv
namespace Go.Proofs.Ytejoggbebmmlkaa
open Go.RowKit
set_option linter.unusedVariables false
set_option linter.unusedSimpArgs false
variable {w w' : World} {base : Nat} {l a : Value} {ps : List Pk} {A : List (Int × Int)}

def rsendPs (ps : List Pk) (A : List (Int × Int)) (p : Pk) : List Pk := if rsendOk ps A p then ps ++ [p] else ps
theorem rsend_all (p : Pk) (h : RNet w base l a ps A) (hb : base ≤ w.heap.size) (hl : ps.length ≤ 2000) (hA : A.length ≤ 1000) :
    Calls Try.prog 25 #[rv l a, pv p] w fun e w' => ∃ l', e = .returned (.tuple #[rv l' a, .bool (rsendOk ps A p)]) ∧ RNet w' base l' a (rsendPs ps A p) A ∧ RTo w w' l a l' a := by
  cases hs : rsendOk ps A p with
  | false =>
    rw [rsendPs, hs]
    exact (rsend_no p h hl hA hs).mono fun _ _ ⟨he, hb'⟩ => ⟨l, he, h.below hb' (Nat.le_refl _), RTo.same hb'⟩
  | true => rw [rsendPs, hs]; exact rsend_yes p h hb hA hs
theorem rdouble_all (k : Int) (h : RNet w base l a ps A) (hb : base ≤ w.heap.size) (hl : ps.length ≤ 2000) :
    Calls Try.prog 27 #[rv l a, .int .i64 k] w fun e w' => ∃ l', e = .returned (.tuple #[rv l' a, .bool (doubleOk ps k)]) ∧ RNet w' base l' a (doublePs ps k) A ∧ RTo w w' l a l' a := by
  cases hs : doubleOk ps k with
  | false =>
    rw [doublePs, hs]
    exact (rdouble_no k h hl hs).mono fun _ _ ⟨he, hb'⟩ => ⟨l, he, h.below hb' (Nat.le_refl _), RTo.same hb'⟩
  | true =>
    rw [doublePs, hs]
    have hs' := hs
    simp only [doubleOk, Bool.and_eq_true, decide_eq_true_eq] at hs'
    obtain ⟨p, hp⟩ := Option.isSome_iff_exists.1 hs'.1
    rw [hp]
    exact rdouble_yes k p h hb hp hs'.2

/-- what a call does. -/
def stepR (o : Op6) (ps : List Pk) (A : List (Int × Int)) : (Pk × Bool) × List Pk × List (Int × Int) :=
  if o.kd = 0 then ((zp, rsendOk ps A o.p), rsendPs ps A o.p, A)
  else if o.kd = 1 then (((getI ps o.k).getD zp, (getI ps o.k).isSome), eraseI ps o.k, A)
  else if o.kd = 2 then ((zp, doubleOk ps o.k), doublePs ps o.k, A)
  else if o.kd = 3 then ((zp, false), ps.filter (fun p => !goesB o.k o.j p), A ++ [(o.k, o.j)])
  else if o.kd = 4 then ((zp, false), ps, [])
  else ((zp, false), ps, A)
theorem RTo.alloc {l' a' : Value} (h : RTo w w' l a l' a') (o : Obj) : RTo w (w'.alloc o) l a l' a' := ⟨h.below.alloc h.below.size _, h.fst, h.snd⟩
theorem do_end {w0 w1 : World} {l1 a1 : Value} {z p : Nat} {zz pp : Array Value} (hR : RNet w1 base l1 a1 ps A) (hT : RTo w0 w1 l a l1 a1) (hl : ∀ k, l.ownBlock = some k → k < w.heap.size) (ha : ∀ k, a.ownBlock = some k → k < w.heap.size)
    (B0 : Below w.heap.size w w0) (hz : Box w1 z 45 zz) (hp : Box w1 p 27 pp) (hzw : w.heap.size ≤ z) (hpw : w.heap.size ≤ p) (hzp : z ≠ p) (hz0 : z < w0.heap.size) (hp0 : p < w0.heap.size) (x y x2 y2 z2 : Value) :
    let w2 := ((((w1.setCell ⟨z, 0, none⟩ x).setCell ⟨z, 1, none⟩ y).setCell ⟨p, 0, none⟩ x2).setCell ⟨p, 1, none⟩ y2).setCell ⟨p, 2, none⟩ z2
    RNet w2 base l1 a1 ps A ∧ RTo w w2 l a l1 a1 ∧ Box w2 z 45 ((zz.setIfInBounds 0 x).setIfInBounds 1 y) ∧ Box w2 p 27 (((pp.setIfInBounds 0 x2).setIfInBounds 1 y2).setIfInBounds 2 z2) := by
  have hs := B0.size
  refine ⟨hR.stays fun k hk ho => ?_, ⟨(((((B0.trans (hT.below.mono hs)).setCell hzw _).setCell hzw _).setCell hpw _).setCell hpw _).setCell hpw _, fun k hk => ?_, fun k hk => ?_⟩, ((((hz.set 0 x).set 1 y).set_other hzp _).set_other hzp _).set_other hzp _, ((((hp.set_other (Ne.symm hzp) _).set_other (Ne.symm hzp) _).set 0 x2).set 1 y2).set 2 z2⟩
  · have hn : k ≠ z ∧ k ≠ p := by
      rcases ho with h1 | h1
      · rcases hT.fst k h1 with h2 | h2
        · have := hl k h2; omega
        · omega
      · rcases hT.snd k h1 with h2 | h2
        · have := ha k h2; omega
        · omega
    exact (Below.heap_setCell _ _ _ k hn.2).trans ((Below.heap_setCell _ _ _ k hn.2).trans ((Below.heap_setCell _ _ _ k hn.2).trans ((Below.heap_setCell _ _ _ k hn.1).trans (Below.heap_setCell _ _ _ k hn.1))))
  · rcases hT.fst k hk with h2 | h2
    · exact .inl h2
    · exact .inr (Nat.le_trans hs h2)
  · rcases hT.snd k hk with h2 | h2
    · exact .inl h2
    · exact .inr (Nat.le_trans hs h2)

set_option maxHeartbeats 1000000 in
theorem rdo_0 (o : Op6) (h : RNet w base l a ps A) (hb : base ≤ w.heap.size) (hl : ps.length ≤ 2000) (hA : A.length ≤ 1000) :
    Calls Try.prog 19 #[rv l a, .agg #[.int .i64 0, .int .i64 o.k, .int .i64 o.j, .int .i64 o.p.1, .int .i64 o.p.2.1, .string o.p.2.2]] w fun e w' => ∃ l' a', e = .returned (.tuple #[rv l' a', pv (zp), .bool (rsendOk ps A o.p)]) ∧ RNet w' base l' a' (rsendPs ps A o.p) (A) ∧ RTo w w' l a l' a' := by
  have hol := fun k hk => own_lt h.row k hk
  have hoa := fun k hk => own_lt h.prs k hk
  obtain ⟨ad, c, rfl, _⟩ := own_shape h.row
  obtain ⟨aa, ca, rfl, _⟩ := own_shape h.prs
  have HR := Lib.hid h
  have HOL := Lib.hid hol
  have HOA := Lib.hid hoa
  have B0 := Lib.hid (((((Below.refl w.heap.size w).alloc (Nat.le_refl _) (.cells #[.slice ad ps.length c, .slice aa A.length ca] 45)).alloc (by simp) (.cells #[.int .i64 0, .int .i64 o.k, .int .i64 o.j, .int .i64 o.p.1, .int .i64 o.p.2.1, .string o.p.2.2] 37)).alloc (by simp; omega) (.cells #[.slice none 0 0, .slice none 0 0] 45)).alloc (by simp; omega) (.cells #[.int .i64 0, .int .i64 0, .string ⟨#[]⟩] 27))
  have hZ := (Box.new ((w.alloc (.cells #[.slice ad ps.length c, .slice aa A.length ca] 45)).alloc (.cells #[.int .i64 0, .int .i64 o.k, .int .i64 o.j, .int .i64 o.p.1, .int .i64 o.p.2.1, .string o.p.2.2] 37)) 45 #[.slice none 0 0, .slice none 0 0]).alloc (.cells #[.int .i64 0, .int .i64 0, .string ⟨#[]⟩] 27)
  have hP := Box.new (((w.alloc (.cells #[.slice ad ps.length c, .slice aa A.length ca] 45)).alloc (.cells #[.int .i64 0, .int .i64 o.k, .int .i64 o.j, .int .i64 o.p.1, .int .i64 o.p.2.1, .string o.p.2.2] 37)).alloc (.cells #[.slice none 0 0, .slice none 0 0] 45)) 27 #[.int .i64 0, .int .i64 0, .string ⟨#[]⟩]
  simp only [World.size_alloc] at hZ hP
  have HZ := Lib.hid hZ
  have HP := Lib.hid hP
  unfold rv pv
  clear h hZ hP hol hoa
  go_enter Try.func19, Try.ntmps19
  go_wp2_with fail
  generalize (((w.alloc (.cells #[.slice ad ps.length c, .slice aa A.length ca] 45)).alloc (.cells #[.int .i64 0, .int .i64 o.k, .int .i64 o.j, .int .i64 o.p.1, .int .i64 o.p.2.1, .string o.p.2.2] 37)).alloc (.cells #[.slice none 0 0, .slice none 0 0] 45)).alloc (.cells #[.int .i64 0, .int .i64 0, .string ⟨#[]⟩] 27) = w0 at HZ HP B0 ⊢
  have C := Lib.hid (rsend_all o.p (HR.out.below B0.out (Nat.le_refl _)) (Nat.le_trans hb B0.out.size) hl hA)
  unfold rv at C
  unfold pv at C
  refine C.out.mono ?_
  rintro e w1 ⟨l1, rfl, hN1, hT1⟩
  obtain ⟨ad1, c1, rfl, _⟩ := own_shape hN1.row
  have HN1 := Lib.hid hN1
  have HT1 := Lib.hid hT1
  have HZ1 := Lib.hid (HZ.out.below hT1.below HZ.out.lt)
  have HP1 := Lib.hid (HP.out.below hT1.below HP.out.lt)
  have z0 : w1.cell? ⟨w.heap.size + 1 + 1, 0, none⟩ = some (.slice none 0 0) := HZ1.out.cell 0
  have z1 : w1.cell? ⟨w.heap.size + 1 + 1, 1, none⟩ = some (.slice none 0 0) := HZ1.out.cell 1
  have p0 : w1.cell? ⟨w.heap.size + 1 + 1 + 1, 0, none⟩ = some (.int .i64 0) := HP1.out.cell 0
  have p1 : w1.cell? ⟨w.heap.size + 1 + 1 + 1, 1, none⟩ = some (.int .i64 0) := HP1.out.cell 1
  have p2 : w1.cell? ⟨w.heap.size + 1 + 1 + 1, 2, none⟩ = some (.string ⟨#[]⟩) := HP1.out.cell 2
  have f0 := HZ1.out.frozen 0
  have f1 := HZ1.out.frozen 1
  have g0 := HP1.out.frozen 0
  have g1 := HP1.out.frozen 1
  have g2 := HP1.out.frozen 2
  have hw1 := HP1.out.lt
  have hw2 := HZ1.out.lt
  clear hN1 hT1 C
  go_wp2
  obtain ⟨e1, e2, e3, e4⟩ := do_end (w := w) HN1.out HT1.out HOL.out HOA.out B0.out HZ1.out HP1.out (by omega) (by omega) (by omega) HZ.out.lt HP.out.lt _ _ (.int .i64 0) (.int .i64 0) (.string ⟨#[]⟩)
  exact ret_box3 Try.results19 rfl rfl rfl rfl (e3.alloc _) (e4.alloc _) ⟨_, _, rfl, e1.alloc _, e2.alloc _⟩

set_option maxHeartbeats 1000000 in
theorem rdo_1 (o : Op6) (h : RNet w base l a ps A) (hb : base ≤ w.heap.size) (hl : ps.length ≤ 2000) (hA : A.length ≤ 1000) :
    Calls Try.prog 19 #[rv l a, .agg #[.int .i64 1, .int .i64 o.k, .int .i64 o.j, .int .i64 o.p.1, .int .i64 o.p.2.1, .string o.p.2.2]] w fun e w' => ∃ l' a', e = .returned (.tuple #[rv l' a', pv ((getI ps o.k).getD zp), .bool ((getI ps o.k).isSome)]) ∧ RNet w' base l' a' (eraseI ps o.k) (A) ∧ RTo w w' l a l' a' := by
  have hol := fun k hk => own_lt h.row k hk
  have hoa := fun k hk => own_lt h.prs k hk
  obtain ⟨ad, c, rfl, _⟩ := own_shape h.row
  obtain ⟨aa, ca, rfl, _⟩ := own_shape h.prs
  have HR := Lib.hid h
  have HOL := Lib.hid hol
  have HOA := Lib.hid hoa
  have B0 := Lib.hid (((((Below.refl w.heap.size w).alloc (Nat.le_refl _) (.cells #[.slice ad ps.length c, .slice aa A.length ca] 45)).alloc (by simp) (.cells #[.int .i64 1, .int .i64 o.k, .int .i64 o.j, .int .i64 o.p.1, .int .i64 o.p.2.1, .string o.p.2.2] 37)).alloc (by simp; omega) (.cells #[.slice none 0 0, .slice none 0 0] 45)).alloc (by simp; omega) (.cells #[.int .i64 0, .int .i64 0, .string ⟨#[]⟩] 27))
  have hZ := (Box.new ((w.alloc (.cells #[.slice ad ps.length c, .slice aa A.length ca] 45)).alloc (.cells #[.int .i64 1, .int .i64 o.k, .int .i64 o.j, .int .i64 o.p.1, .int .i64 o.p.2.1, .string o.p.2.2] 37)) 45 #[.slice none 0 0, .slice none 0 0]).alloc (.cells #[.int .i64 0, .int .i64 0, .string ⟨#[]⟩] 27)
  have hP := Box.new (((w.alloc (.cells #[.slice ad ps.length c, .slice aa A.length ca] 45)).alloc (.cells #[.int .i64 1, .int .i64 o.k, .int .i64 o.j, .int .i64 o.p.1, .int .i64 o.p.2.1, .string o.p.2.2] 37)).alloc (.cells #[.slice none 0 0, .slice none 0 0] 45)) 27 #[.int .i64 0, .int .i64 0, .string ⟨#[]⟩]
  simp only [World.size_alloc] at hZ hP
  have HZ := Lib.hid hZ
  have HP := Lib.hid hP
  unfold rv pv
  clear h hZ hP hol hoa
  go_enter Try.func19, Try.ntmps19
  go_wp2_with fail
  generalize (((w.alloc (.cells #[.slice ad ps.length c, .slice aa A.length ca] 45)).alloc (.cells #[.int .i64 1, .int .i64 o.k, .int .i64 o.j, .int .i64 o.p.1, .int .i64 o.p.2.1, .string o.p.2.2] 37)).alloc (.cells #[.slice none 0 0, .slice none 0 0] 45)).alloc (.cells #[.int .i64 0, .int .i64 0, .string ⟨#[]⟩] 27) = w0 at HZ HP B0 ⊢
  obtain ⟨r, hr⟩ : ∃ r, (getI ps o.k).getD zp = r := ⟨_, rfl⟩
  have C := Lib.hid (rtake_all o.k (HR.out.below B0.out (Nat.le_refl _)) (Nat.le_trans hb B0.out.size) hl)
  have HRR := Lib.hid hr
  rw [hr] at C
  clear hr
  unfold rv pv at C
  refine C.out.mono ?_
  rintro e w1 ⟨l1, rfl, hN1, hT1⟩
  obtain ⟨ad1, c1, rfl, _⟩ := own_shape hN1.row
  have HN1 := Lib.hid hN1
  have HT1 := Lib.hid hT1
  have HZ1 := Lib.hid (HZ.out.below hT1.below HZ.out.lt)
  have HP1 := Lib.hid (HP.out.below hT1.below HP.out.lt)
  have z0 : w1.cell? ⟨w.heap.size + 1 + 1, 0, none⟩ = some (.slice none 0 0) := HZ1.out.cell 0
  have z1 : w1.cell? ⟨w.heap.size + 1 + 1, 1, none⟩ = some (.slice none 0 0) := HZ1.out.cell 1
  have p0 : w1.cell? ⟨w.heap.size + 1 + 1 + 1, 0, none⟩ = some (.int .i64 0) := HP1.out.cell 0
  have p1 : w1.cell? ⟨w.heap.size + 1 + 1 + 1, 1, none⟩ = some (.int .i64 0) := HP1.out.cell 1
  have p2 : w1.cell? ⟨w.heap.size + 1 + 1 + 1, 2, none⟩ = some (.string ⟨#[]⟩) := HP1.out.cell 2
  have f0 := HZ1.out.frozen 0
  have f1 := HZ1.out.frozen 1
  have g0 := HP1.out.frozen 0
  have g1 := HP1.out.frozen 1
  have g2 := HP1.out.frozen 2
  have hw1 := HP1.out.lt
  have hw2 := HZ1.out.lt
  clear hN1 hT1 C
  go_wp2
  obtain ⟨e1, e2, e3, e4⟩ := do_end (w := w) HN1.out HT1.out HOL.out HOA.out B0.out HZ1.out HP1.out (by omega) (by omega) (by omega) HZ.out.lt HP.out.lt _ _ _ _ _
  exact ret_box3 Try.results19 rfl rfl rfl rfl e3 e4 ⟨_, _, by rw [HRR.out]; rfl, e1, e2⟩

set_option maxHeartbeats 1000000 in
theorem rdo_2 (o : Op6) (h : RNet w base l a ps A) (hb : base ≤ w.heap.size) (hl : ps.length ≤ 2000) (hA : A.length ≤ 1000) :
    Calls Try.prog 19 #[rv l a, .agg #[.int .i64 2, .int .i64 o.k, .int .i64 o.j, .int .i64 o.p.1, .int .i64 o.p.2.1, .string o.p.2.2]] w fun e w' => ∃ l' a', e = .returned (.tuple #[rv l' a', pv (zp), .bool (doubleOk ps o.k)]) ∧ RNet w' base l' a' (doublePs ps o.k) (A) ∧ RTo w w' l a l' a' := by
  have hol := fun k hk => own_lt h.row k hk
  have hoa := fun k hk => own_lt h.prs k hk
  obtain ⟨ad, c, rfl, _⟩ := own_shape h.row
  obtain ⟨aa, ca, rfl, _⟩ := own_shape h.prs
  have HR := Lib.hid h
  have HOL := Lib.hid hol
  have HOA := Lib.hid hoa
  have B0 := Lib.hid (((((Below.refl w.heap.size w).alloc (Nat.le_refl _) (.cells #[.slice ad ps.length c, .slice aa A.length ca] 45)).alloc (by simp) (.cells #[.int .i64 2, .int .i64 o.k, .int .i64 o.j, .int .i64 o.p.1, .int .i64 o.p.2.1, .string o.p.2.2] 37)).alloc (by simp; omega) (.cells #[.slice none 0 0, .slice none 0 0] 45)).alloc (by simp; omega) (.cells #[.int .i64 0, .int .i64 0, .string ⟨#[]⟩] 27))
  have hZ := (Box.new ((w.alloc (.cells #[.slice ad ps.length c, .slice aa A.length ca] 45)).alloc (.cells #[.int .i64 2, .int .i64 o.k, .int .i64 o.j, .int .i64 o.p.1, .int .i64 o.p.2.1, .string o.p.2.2] 37)) 45 #[.slice none 0 0, .slice none 0 0]).alloc (.cells #[.int .i64 0, .int .i64 0, .string ⟨#[]⟩] 27)
  have hP := Box.new (((w.alloc (.cells #[.slice ad ps.length c, .slice aa A.length ca] 45)).alloc (.cells #[.int .i64 2, .int .i64 o.k, .int .i64 o.j, .int .i64 o.p.1, .int .i64 o.p.2.1, .string o.p.2.2] 37)).alloc (.cells #[.slice none 0 0, .slice none 0 0] 45)) 27 #[.int .i64 0, .int .i64 0, .string ⟨#[]⟩]
  simp only [World.size_alloc] at hZ hP
  have HZ := Lib.hid hZ
  have HP := Lib.hid hP
  unfold rv pv
  clear h hZ hP hol hoa
  go_enter Try.func19, Try.ntmps19
  go_wp2_with fail
  generalize (((w.alloc (.cells #[.slice ad ps.length c, .slice aa A.length ca] 45)).alloc (.cells #[.int .i64 2, .int .i64 o.k, .int .i64 o.j, .int .i64 o.p.1, .int .i64 o.p.2.1, .string o.p.2.2] 37)).alloc (.cells #[.slice none 0 0, .slice none 0 0] 45)).alloc (.cells #[.int .i64 0, .int .i64 0, .string ⟨#[]⟩] 27) = w0 at HZ HP B0 ⊢
  have C := Lib.hid (rdouble_all o.k (HR.out.below B0.out (Nat.le_refl _)) (Nat.le_trans hb B0.out.size) hl)
  unfold rv at C
  refine C.out.mono ?_
  rintro e w1 ⟨l1, rfl, hN1, hT1⟩
  obtain ⟨ad1, c1, rfl, _⟩ := own_shape hN1.row
  have HN1 := Lib.hid hN1
  have HT1 := Lib.hid hT1
  have HZ1 := Lib.hid (HZ.out.below hT1.below HZ.out.lt)
  have HP1 := Lib.hid (HP.out.below hT1.below HP.out.lt)
  have z0 : w1.cell? ⟨w.heap.size + 1 + 1, 0, none⟩ = some (.slice none 0 0) := HZ1.out.cell 0
  have z1 : w1.cell? ⟨w.heap.size + 1 + 1, 1, none⟩ = some (.slice none 0 0) := HZ1.out.cell 1
  have p0 : w1.cell? ⟨w.heap.size + 1 + 1 + 1, 0, none⟩ = some (.int .i64 0) := HP1.out.cell 0
  have p1 : w1.cell? ⟨w.heap.size + 1 + 1 + 1, 1, none⟩ = some (.int .i64 0) := HP1.out.cell 1
  have p2 : w1.cell? ⟨w.heap.size + 1 + 1 + 1, 2, none⟩ = some (.string ⟨#[]⟩) := HP1.out.cell 2
  have f0 := HZ1.out.frozen 0
  have f1 := HZ1.out.frozen 1
  have g0 := HP1.out.frozen 0
  have g1 := HP1.out.frozen 1
  have g2 := HP1.out.frozen 2
  have hw1 := HP1.out.lt
  have hw2 := HZ1.out.lt
  clear hN1 hT1 C
  go_wp2
  obtain ⟨e1, e2, e3, e4⟩ := do_end (w := w) HN1.out HT1.out HOL.out HOA.out B0.out HZ1.out HP1.out (by omega) (by omega) (by omega) HZ.out.lt HP.out.lt _ _ (.int .i64 0) (.int .i64 0) (.string ⟨#[]⟩)
  exact ret_box3 Try.results19 rfl rfl rfl rfl (e3.alloc _) (e4.alloc _) ⟨_, _, rfl, e1.alloc _, e2.alloc _⟩

set_option maxHeartbeats 1000000 in
theorem rdo_3 (o : Op6) (h : RNet w base l a ps A) (hb : base ≤ w.heap.size) (hl : ps.length ≤ 2000) (hA : A.length ≤ 1000) :
    Calls Try.prog 19 #[rv l a, .agg #[.int .i64 3, .int .i64 o.k, .int .i64 o.j, .int .i64 o.p.1, .int .i64 o.p.2.1, .string o.p.2.2]] w fun e w' => ∃ l' a', e = .returned (.tuple #[rv l' a', pv (zp), .bool (false)]) ∧ RNet w' base l' a' (ps.filter (fun p => !goesB o.k o.j p)) (A ++ [(o.k, o.j)]) ∧ RTo w w' l a l' a' := by
  have hol := fun k hk => own_lt h.row k hk
  have hoa := fun k hk => own_lt h.prs k hk
  obtain ⟨ad, c, rfl, _⟩ := own_shape h.row
  obtain ⟨aa, ca, rfl, _⟩ := own_shape h.prs
  have HR := Lib.hid h
  have HOL := Lib.hid hol
  have HOA := Lib.hid hoa
  have B0 := Lib.hid (((((Below.refl w.heap.size w).alloc (Nat.le_refl _) (.cells #[.slice ad ps.length c, .slice aa A.length ca] 45)).alloc (by simp) (.cells #[.int .i64 3, .int .i64 o.k, .int .i64 o.j, .int .i64 o.p.1, .int .i64 o.p.2.1, .string o.p.2.2] 37)).alloc (by simp; omega) (.cells #[.slice none 0 0, .slice none 0 0] 45)).alloc (by simp; omega) (.cells #[.int .i64 0, .int .i64 0, .string ⟨#[]⟩] 27))
  have hZ := (Box.new ((w.alloc (.cells #[.slice ad ps.length c, .slice aa A.length ca] 45)).alloc (.cells #[.int .i64 3, .int .i64 o.k, .int .i64 o.j, .int .i64 o.p.1, .int .i64 o.p.2.1, .string o.p.2.2] 37)) 45 #[.slice none 0 0, .slice none 0 0]).alloc (.cells #[.int .i64 0, .int .i64 0, .string ⟨#[]⟩] 27)
  have hP := Box.new (((w.alloc (.cells #[.slice ad ps.length c, .slice aa A.length ca] 45)).alloc (.cells #[.int .i64 3, .int .i64 o.k, .int .i64 o.j, .int .i64 o.p.1, .int .i64 o.p.2.1, .string o.p.2.2] 37)).alloc (.cells #[.slice none 0 0, .slice none 0 0] 45)) 27 #[.int .i64 0, .int .i64 0, .string ⟨#[]⟩]
  simp only [World.size_alloc] at hZ hP
  have HZ := Lib.hid hZ
  have HP := Lib.hid hP
  unfold rv pv
  clear h hZ hP hol hoa
  go_enter Try.func19, Try.ntmps19
  go_wp2_with fail
  generalize (((w.alloc (.cells #[.slice ad ps.length c, .slice aa A.length ca] 45)).alloc (.cells #[.int .i64 3, .int .i64 o.k, .int .i64 o.j, .int .i64 o.p.1, .int .i64 o.p.2.1, .string o.p.2.2] 37)).alloc (.cells #[.slice none 0 0, .slice none 0 0] 45)).alloc (.cells #[.int .i64 0, .int .i64 0, .string ⟨#[]⟩] 27) = w0 at HZ HP B0 ⊢
  have C := Lib.hid (rpart_any o.k o.j (HR.out.below B0.out (Nat.le_refl _)) (Nat.le_trans hb B0.out.size) hl hA)
  unfold rv at C
  refine C.out.mono ?_
  rintro e w1 ⟨l1, a1, rfl, hN1, hT1⟩
  obtain ⟨ad1, c1, rfl, _⟩ := own_shape hN1.row
  obtain ⟨aa1, ca1, rfl, _⟩ := own_shape hN1.prs
  have HN1 := Lib.hid hN1
  have HT1 := Lib.hid hT1
  have HZ1 := Lib.hid (HZ.out.below hT1.below HZ.out.lt)
  have HP1 := Lib.hid (HP.out.below hT1.below HP.out.lt)
  have z0 : w1.cell? ⟨w.heap.size + 1 + 1, 0, none⟩ = some (.slice none 0 0) := HZ1.out.cell 0
  have z1 : w1.cell? ⟨w.heap.size + 1 + 1, 1, none⟩ = some (.slice none 0 0) := HZ1.out.cell 1
  have p0 : w1.cell? ⟨w.heap.size + 1 + 1 + 1, 0, none⟩ = some (.int .i64 0) := HP1.out.cell 0
  have p1 : w1.cell? ⟨w.heap.size + 1 + 1 + 1, 1, none⟩ = some (.int .i64 0) := HP1.out.cell 1
  have p2 : w1.cell? ⟨w.heap.size + 1 + 1 + 1, 2, none⟩ = some (.string ⟨#[]⟩) := HP1.out.cell 2
  have f0 := HZ1.out.frozen 0
  have f1 := HZ1.out.frozen 1
  have g0 := HP1.out.frozen 0
  have g1 := HP1.out.frozen 1
  have g2 := HP1.out.frozen 2
  have hw1 := HP1.out.lt
  have hw2 := HZ1.out.lt
  clear hN1 hT1 C
  go_wp2
  obtain ⟨e1, e2, e3, e4⟩ := do_end (w := w) HN1.out HT1.out HOL.out HOA.out B0.out HZ1.out HP1.out (by omega) (by omega) (by omega) HZ.out.lt HP.out.lt _ _ (.int .i64 0) (.int .i64 0) (.string ⟨#[]⟩)
  simp only [List.length_append, List.length_cons, List.length_nil, Nat.zero_add] at e1 e2 e3 e4
  exact ret_box3 Try.results19 rfl rfl rfl rfl e3 e4 ⟨_, _, rfl, e1, e2⟩

theorem rdo_4 (o : Op6) (h : RNet w base l a ps A) (hb : base ≤ w.heap.size) :
    Calls Try.prog 19 #[rv l a, .agg #[.int .i64 4, .int .i64 o.k, .int .i64 o.j, .int .i64 o.p.1, .int .i64 o.p.2.1, .string o.p.2.2]] w fun e w' => e = .returned (.tuple #[rv l (.slice none 0 0), pv zp, .bool false]) ∧ Below w.heap.size w w' := by
  obtain ⟨ad, c, rfl, _⟩ := own_shape h.row
  obtain ⟨aa, ca, rfl, _⟩ := own_shape h.prs
  clear h hb
  unfold rv pv
  go_enter Try.func19, Try.ntmps19
  go_wp2
  have hX := (Box.new ((w.alloc (.cells #[.slice ad ps.length c, .slice none 0 0] 45)).alloc (.cells #[.int .i64 4, .int .i64 o.k, .int .i64 o.j, .int .i64 o.p.1, .int .i64 o.p.2.1, .string o.p.2.2] 37)) 45 #[.slice ad ps.length c, .slice none 0 0]).alloc (.cells #[.int .i64 0, .int .i64 0, .string ⟨#[]⟩] 27)
  have hY := Box.new (((w.alloc (.cells #[.slice ad ps.length c, .slice none 0 0] 45)).alloc (.cells #[.int .i64 4, .int .i64 o.k, .int .i64 o.j, .int .i64 o.p.1, .int .i64 o.p.2.1, .string o.p.2.2] 37)).alloc (.cells #[.slice ad ps.length c, .slice none 0 0] 45)) 27 #[.int .i64 0, .int .i64 0, .string ⟨#[]⟩]
  simp only [World.size_alloc] at hX hY
  exact ret_box3 Try.results19 rfl rfl rfl rfl hX hY ⟨rfl, (((Below.refl w.heap.size w).alloc (Nat.le_refl _) _).alloc (by simp) _ |>.alloc (by simp; omega) _).alloc (by simp; omega) _⟩

theorem rdo_other (o : Op6) (h : RNet w base l a ps A) (hb : base ≤ w.heap.size) (h0 : o.kd ≠ 0) (h1 : o.kd ≠ 1) (h2 : o.kd ≠ 2) (h3 : o.kd ≠ 3) (h4 : o.kd ≠ 4) :
    Calls Try.prog 19 #[rv l a, .agg #[.int .i64 o.kd, .int .i64 o.k, .int .i64 o.j, .int .i64 o.p.1, .int .i64 o.p.2.1, .string o.p.2.2]] w fun e w' => e = .returned (.tuple #[rv l (a), pv zp, .bool false]) ∧ Below w.heap.size w w' := by
  have e0 : (o.kd == 0) = false := by simpa using h0
  have e1 : (o.kd == 1) = false := by simpa using h1
  have e2 : (o.kd == 2) = false := by simpa using h2
  have e3 : (o.kd == 3) = false := by simpa using h3
  have e4 : (o.kd == 4) = false := by simpa using h4
  clear h0 h1 h2 h3 h4
  obtain ⟨ad, c, rfl, _⟩ := own_shape h.row
  obtain ⟨aa, ca, rfl, _⟩ := own_shape h.prs
  clear h hb
  unfold rv pv
  go_enter Try.func19, Try.ntmps19
  go_wp2
  have hX := (Box.new ((w.alloc (.cells #[.slice ad ps.length c, .slice aa A.length ca] 45)).alloc (.cells #[.int .i64 o.kd, .int .i64 o.k, .int .i64 o.j, .int .i64 o.p.1, .int .i64 o.p.2.1, .string o.p.2.2] 37)) 45 #[.slice ad ps.length c, .slice aa A.length ca]).alloc (.cells #[.int .i64 0, .int .i64 0, .string ⟨#[]⟩] 27)
  have hY := Box.new (((w.alloc (.cells #[.slice ad ps.length c, .slice aa A.length ca] 45)).alloc (.cells #[.int .i64 o.kd, .int .i64 o.k, .int .i64 o.j, .int .i64 o.p.1, .int .i64 o.p.2.1, .string o.p.2.2] 37)).alloc (.cells #[.slice ad ps.length c, .slice aa A.length ca] 45)) 27 #[.int .i64 0, .int .i64 0, .string ⟨#[]⟩]
  simp only [World.size_alloc] at hX hY
  exact ret_box3 Try.results19 rfl rfl rfl rfl hX hY ⟨rfl, (((Below.refl w.heap.size w).alloc (Nat.le_refl _) _).alloc (by simp) _ |>.alloc (by simp; omega) _).alloc (by simp; omega) _⟩

theorem rdo_any (o : Op6) (h : RNet w base l a ps A) (hb : base ≤ w.heap.size) (hl : ps.length ≤ 2000) (hA : A.length ≤ 1000) :
    Calls Try.prog 19 #[rv l a, ov o] w fun e w' => ∃ l' a', e = .returned (.tuple #[rv l' a', pv (stepR o ps A).1.1, .bool (stepR o ps A).1.2]) ∧ RNet w' base l' a' (stepR o ps A).2.1 (stepR o ps A).2.2 ∧ RTo w w' l a l' a' := by
  obtain ⟨kd, k, j, p⟩ := o
  by_cases h0 : kd = 0
  · subst h0; exact rdo_0 ⟨0, k, j, p⟩ h hb hl hA
  by_cases h1 : kd = 1
  · subst h1; exact rdo_1 ⟨1, k, j, p⟩ h hb hl hA
  by_cases h2 : kd = 2
  · subst h2; exact rdo_2 ⟨2, k, j, p⟩ h hb hl hA
  by_cases h3 : kd = 3
  · subst h3; exact rdo_3 ⟨3, k, j, p⟩ h hb hl hA
  by_cases h4 : kd = 4
  · subst h4
    exact (rdo_4 ⟨4, k, j, p⟩ h hb).mono fun _ _ ⟨he, hb'⟩ => ⟨l, .slice none 0 0, he, ⟨(h.below hb' (Nat.le_refl _)).row, World.ownsRow_nil _ _ _ _⟩, ⟨hb', fun _ hk => .inl hk, fun _ hk => by cases hk⟩⟩
  have e : stepR ⟨kd, k, j, p⟩ ps A = ((zp, false), ps, A) := by simp [stepR, h0, h1, h2, h3, h4]
  rw [e]
  exact (rdo_other ⟨kd, k, j, p⟩ h hb h0 h1 h2 h3 h4).mono fun _ _ ⟨he, hb'⟩ => ⟨l, a, he, h.below hb' (Nat.le_refl _), RTo.same hb'⟩

/-- the document's list says the same as the net's map. -/
def Same (M A : List (Int × Int)) : Prop := ∀ x, x ∈ M ↔ ∃ q ∈ A, pairOf2 q.1 q.2 = x
theorem Same.ap {M : List (Int × Int)} (h : Same M A) (x y : Int) : A.any (apQ x y) = decide (pairOf2 x y ∈ M) := by
  rw [Bool.eq_iff_iff, List.any_eq_true, decide_eq_true_eq, h]
  constructor
  · rintro ⟨q, hq, he⟩
    refine ⟨q, hq, ?_⟩
    simp only [apQ, pairOf2, Bool.or_eq_true, Bool.and_eq_true, beq_iff_eq, Prod.mk.injEq] at he ⊢
    omega
  · rintro ⟨q, hq, he⟩
    refine ⟨q, hq, ?_⟩
    simp only [apQ, pairOf2, Bool.or_eq_true, Bool.and_eq_true, beq_iff_eq, Prod.mk.injEq] at he ⊢
    omega
theorem step_same {M : List (Int × Int)} (o : Op6) (h : Same M A) : (stepP o ps M).1 = (stepR o ps A).1 ∧ (stepP o ps M).2.1 = (stepR o ps A).2.1 ∧ Same (stepP o ps M).2.2 (stepR o ps A).2.2 ∧ (stepR o ps A).2.2.length ≤ A.length + 1 := by
  have hs : rsendOk ps A o.p = sendOk ps M o.p := by rw [rsendOk, sendOk, h.ap]; rfl
  have hp : rsendPs ps A o.p = sendPs ps M o.p := by rw [rsendPs, sendPs, hs]
  unfold stepP stepR
  rw [hs, hp]
  split
  · exact ⟨rfl, rfl, h, by simp⟩
  split
  · exact ⟨rfl, rfl, h, by simp⟩
  split
  · exact ⟨rfl, rfl, h, by simp⟩
  split
  · refine ⟨rfl, rfl, fun x => ?_, by simp⟩
    have h0 := h x
    simp only [List.mem_append, List.mem_singleton]
    unfold addKey
    split
    · rename_i hm
      rw [h0]
      constructor
      · rintro ⟨q, hq, he⟩; exact ⟨q, .inl hq, he⟩
      · rintro ⟨q, hq | rfl, he⟩
        · exact ⟨q, hq, he⟩
        · exact h0.1 (he ▸ hm)
    · simp only [List.mem_append, List.mem_singleton]
      rw [h0]
      constructor
      · rintro (⟨q, hq, he⟩ | rfl)
        · exact ⟨q, .inl hq, he⟩
        · exact ⟨_, .inr rfl, rfl⟩
      · rintro ⟨q, hq | rfl, he⟩
        · exact .inl ⟨q, hq, he⟩
        · exact .inr he.symm
  split
  · exact ⟨rfl, rfl, fun x => by simp, by simp⟩
  · exact ⟨rfl, rfl, h, by simp⟩
end Go.Proofs.Ytejoggbebmmlkaa
