/- The document's leases: Open, Renew, Close, Do. Conditions: the row's cells are seen; the leases are a table's. -/
import Derived.Test.YtkgnooogppkieaaLs
namespace Go.Proofs.Ytkgnooogppkieaa
open Go.RowKit
set_option linter.unusedVariables false
set_option linter.unusedSimpArgs false
variable {w w' : World} {base : Nat} {L : List Lz}

/-- what a call of the document's hands back. -/
def Told (w : World) (bad : Nat → Prop) (L' : List Lz) (err : Int) (e : Ending) (w' : World) : Prop :=
  ∃ ad c, e = .returned (.tuple #[.slice ad L'.length c, .int .i64 err]) ∧ L'.length ≤ c ∧ Sees w' (fun k => bad k ∧ k < w.heap.size) ad L' ∧ Below w.heap.size w w'
theorem Told.same {bad : Nat → Prop} {ad : Option Addr} {c : Nat} {err : Int} (h : Sees w bad ad L) (hc : L.length ≤ c) (hb : Below w.heap.size w w') : Told w bad L err (.returned (.tuple #[.slice ad L.length c, .int .i64 err])) w' :=
  ⟨ad, c, rfl, hc, (h.below hb).mono (fun _ _ h => h.1), hb⟩
theorem Told.fresh {bad : Nat → Prop} {w1 : World} {v : Value} {L' : List Lz} (hb : Below w.heap.size w w1) (ho : w'.ownsRow w1.heap.size 46 3 v L'.length (cellsOf L')) (hb' : Below w1.heap.size w1 w') : Told w bad L' 0 (.returned (.tuple #[v, .int .i64 0])) w' := by
  obtain ⟨ad, c, rfl, hc⟩ := own_shape ho
  exact ⟨ad, c, rfl, hc, Sees.of_own ho (fun k h1 _ h => by have := hb.size; omega), hb.trans (hb'.mono hb.size)⟩
theorem Told.from {bad : Nat → Prop} {w0 : World} {L' : List Lz} {err : Int} {e : Ending} (h : Told w bad L' err e w') (hb : Below w0.heap.size w0 w) (hbad : ∀ k, bad k → k < w0.heap.size) : Told w0 bad L' err e w' := by
  obtain ⟨ad, c, rfl, hc, hs, h2⟩ := h
  exact ⟨ad, c, rfl, hc, hs.mono (fun k _ h => ⟨h.1, by have := hb.size; omega⟩), hb.trans (h2.mono hb.size)⟩

theorem ret_two {fn : Func} {R : Ending → World → Prop} {act : Act} {w : World} {x y : Value} {t u : Nat} (h : fn.results = #[.tmp t, .tmp u]) (hd : act.defers = []) (ht : act.tmps.getD t undef = x) (hu : act.tmps.getD u undef = y)
    (hR : R (.returned (.tuple #[x, y])) w) : bodyPost Try.prog fn R .ret act w := by
  refine bodyPost_ret (v := .tuple #[x, y]) ?_ hd hR
  rw [Array.getD_eq_getD_getElem?] at ht hu
  simp [results, h, ht, hu, go_sem]
theorem ropen_any {bad : Nat → Prop} (ad : Option Addr) (c : Nat) (x : Lz) (h : Sees w bad ad L) (hc : L.length ≤ c) (hg : Good L) :
    Calls Try.prog 42 #[.slice ad L.length c, .int .i64 x.1, .int .i64 x.2.1, .int .i64 x.2.2] w (Told w bad (if openOk L x then insL L x else L) (if openOk L x then 0 else 1)) := by
  have hl : L.length ≤ 1000 := Nat.le_trans hg.many (by omega)
  have B0 := Lib.hid ((Below.refl w.heap.size w).alloc (Nat.le_refl _) (.cells #[.int .i64 x.1, .int .i64 x.2.1, .int .i64 x.2.2] 46))
  have HX0 := Lib.hid (Box.new w 46 #[.int .i64 x.1, .int .i64 x.2.1, .int .i64 x.2.2])
  have HO := Lib.hid h
  have C1 := Lib.hid (rget_any ad c x.1 (h.below B0.out) hl)
  have HG := Lib.hid hg.rises
  obtain ⟨M, hM⟩ : ∃ M, M = (if openOk L x then insL L x else L) := ⟨_, rfl⟩
  obtain ⟨er, her⟩ : ∃ er : Int, er = (if openOk L x then 0 else 1) := ⟨_, rfl⟩
  rw [← hM, ← her]
  have HM := Lib.hid hM
  have HER := Lib.hid her
  clear h hg hM her
  go_enter Try.func42, Try.ntmps42
  go_wp2_with fail
  generalize w.alloc (.cells #[.int .i64 x.1, .int .i64 x.2.1, .int .i64 x.2.2] 46) = w1 at B0 HX0 C1 ⊢
  refine C1.out.mono ?_
  rintro e w2 ⟨rfl, bel2⟩
  obtain ⟨q, hq⟩ : ∃ q, q = (findL L x.1).getD zl := ⟨_, rfl⟩
  have hs1 := B0.out.size
  have hs2 := bel2.size
  have B2 := Lib.hid (B0.out.trans (bel2.mono hs1))
  have B3 := Lib.hid (B2.out.alloc B2.out.size (.cells #[.int .i64 q.1, .int .i64 q.2.1, .int .i64 q.2.2] 46))
  have HX2 := Lib.hid ((HX0.out.below bel2 HX0.out.lt).alloc (.cells #[.int .i64 q.1, .int .i64 q.2.1, .int .i64 q.2.2] 46))
  have HS3 := Lib.hid (HO.out.below B3.out)
  have C2 := Lib.hid (rright_any x (w2.alloc (.cells #[.int .i64 q.1, .int .i64 q.2.1, .int .i64 q.2.2] 46)))
  have x0 : (w2.alloc (.cells #[.int .i64 q.1, .int .i64 q.2.1, .int .i64 q.2.2] 46)).cell? ⟨w.heap.size, 0, none⟩ = some (.int .i64 x.1) := HX2.out.cell 0
  have x1 : (w2.alloc (.cells #[.int .i64 q.1, .int .i64 q.2.1, .int .i64 q.2.2] 46)).cell? ⟨w.heap.size, 1, none⟩ = some (.int .i64 x.2.1) := HX2.out.cell 1
  have x2 : (w2.alloc (.cells #[.int .i64 q.1, .int .i64 q.2.1, .int .i64 q.2.2] 46)).cell? ⟨w.heap.size, 2, none⟩ = some (.int .i64 x.2.2) := HX2.out.cell 2
  rw [← hq]
  unfold tv
  unfold tv at C2
  clear hq bel2 C1 HX0
  go_wp2_with fail
  refine C2.out.mono ?_
  rintro e w4 ⟨rfl, bel4⟩
  have hs3 := B3.out.size
  have B4 := Lib.hid (B3.out.trans (bel4.mono hs3))
  have X4 := HX2.out.below bel4 HX2.out.lt
  have y0 : w4.cell? ⟨w.heap.size, 0, none⟩ = some (.int .i64 x.1) := X4.cell 0
  have y1 : w4.cell? ⟨w.heap.size, 1, none⟩ = some (.int .i64 x.2.1) := X4.cell 1
  have y2 : w4.cell? ⟨w.heap.size, 2, none⟩ = some (.int .i64 x.2.2) := X4.cell 2
  clear x0 x1 x2 bel4 C2 X4
  cases hr : rightB x
  · have hM : M = L := by rw [HM.out]; simp [openOk, hr]
    have her : er = 1 := by rw [HER.out]; simp [openOk, hr]
    subst hM her
    go_wp2
    exact ret_two rfl rfl rfl rfl (Told.same HO.out hc B4.out)
  cases hi : isIn L x.1
  · by_cases h100 : L.length < 100
    · have hok : openOk L x = true := by simp [openOk, hr, hi, h100]
      have hM : M = insL L x := by rw [HM.out, hok]; rfl
      have her : er = 0 := by rw [HER.out, hok]; rfl
      have HMW := Lib.hid (show M = withL L x by rw [hM, with_ins HG.out x hi])
      have C5 := Lib.hid (rwith_any ad c x (HO.out.below B4.out) hl)
      subst her
      unfold tv at C5
      rw [← HMW.out] at C5
      clear hM hok HM HER HMW
      go_wp2_with fail
      refine C5.out.mono ?_
      rintro e w5 ⟨v5, rfl, own5, bel5⟩
      go_wp2
      exact ret_two rfl rfl rfl rfl (Told.fresh B4.out own5 bel5)
    · have hok : openOk L x = false := by simp [openOk, hr, hi, h100]
      have hM : M = L := by rw [HM.out, hok]; rfl
      have her : er = 1 := by rw [HER.out, hok]; rfl
      subst hM her
      clear hok
      go_wp2
      exact ret_two rfl rfl rfl rfl (Told.same HO.out hc B4.out)
  · have hM : M = L := by rw [HM.out]; simp [openOk, hr, hi]
    have her : er = 1 := by rw [HER.out]; simp [openOk, hr, hi]
    subst hM her
    go_wp2
    exact ret_two rfl rfl rfl rfl (Told.same HO.out hc B4.out)
theorem get_some (hs : Rises L) (id : Int) (h : isIn L id = true) : getL L id = some ((findL L id).getD zl) := by
  rw [find_get hs]
  obtain ⟨p, hp, _⟩ := isIn_get hs id h
  have e : getL L id = some p := by unfold getL; rw [if_pos h, hp]
  rw [e]; rfl
theorem rrenew_any {bad : Nat → Prop} (ad : Option Addr) (c : Nat) (id now : Int) (h : Sees w bad ad L) (hc : L.length ≤ c) (hg : Good L) :
    Calls Try.prog 43 #[.slice ad L.length c, .int .i64 id, .int .i64 now] w (Told w bad (if clockB now && isIn L id then renL L id now else L) (if clockB now then (if isIn L id then 0 else 100) else 1)) := by
  have hl : L.length ≤ 1000 := Nat.le_trans hg.many (by omega)
  have HO := Lib.hid h
  have C0 := Lib.hid (rclock_any now w)
  have C1 := Lib.hid (rget_any ad c id h hl)
  have HG := Lib.hid hg.rises
  obtain ⟨M, hM⟩ : ∃ M, M = (if clockB now && isIn L id then renL L id now else L) := ⟨_, rfl⟩
  obtain ⟨er, her⟩ : ∃ er : Int, er = (if clockB now then (if isIn L id then 0 else 100) else 1) := ⟨_, rfl⟩
  rw [← hM, ← her]
  have HM := Lib.hid hM
  have HER := Lib.hid her
  obtain ⟨cb, hcb⟩ : ∃ cb, cb = clockB now := ⟨_, rfl⟩
  have e0 : (decide (0 ≤ now) && decide (now ≤ 1099511627776)) = cb := by rw [hcb]; rfl
  rw [e0] at C0
  rw [← hcb] at HM HER
  clear h hg hM her hcb e0
  go_enter Try.func43, Try.ntmps43
  go_wp2_with fail
  refine C0.out.mono ?_
  rintro e w1 ⟨rfl, rfl⟩
  clear C0
  cases cb
  · have hM : M = L := HM.out
    have her : er = 1 := HER.out
    subst hM her
    go_wp2
    exact ret_two rfl rfl rfl rfl (Told.same HO.out hc (Below.refl _ _))
  simp only [Bool.true_and, if_true] at HM HER
  go_wp2_with fail
  refine C1.out.mono ?_
  rintro e w2 ⟨rfl, bel2⟩
  have HGS := Lib.hid (get_some HG.out id)
  obtain ⟨q, hq⟩ : ∃ q, q = (findL L id).getD zl := ⟨_, rfl⟩
  rw [← hq] at HGS ⊢
  have hs2 := bel2.size
  have B3 := Lib.hid (bel2.alloc hs2 (.cells #[.int .i64 q.1, .int .i64 q.2.1, .int .i64 q.2.2] 46))
  have BN := Lib.hid (bel2.alloc hs2 (.cells #[.int .i64 q.1, .int .i64 q.2.1, .int .i64 now] 46))
  have HX3 := Lib.hid (Box.new w2 46 #[.int .i64 q.1, .int .i64 q.2.1, .int .i64 q.2.2])
  unfold tv
  clear hq bel2 C1
  cases hi : isIn L id
  · have hM : M = L := by rw [HM.out, hi]; rfl
    have her : er = 100 := by rw [HER.out, hi]; rfl
    subst hM her
    go_wp2
    exact ret_two rfl rfl rfl rfl (Told.same HO.out hc B3.out)
  have hM : M = withL L (q.1, q.2.1, max q.2.2 now) := by rw [HM.out, hi]; exact (with_ren HG.out id now q hi (HGS.out hi)).symm
  have her : er = 0 := by rw [HER.out, hi]; rfl
  subst her
  have x0 : (w2.alloc (.cells #[.int .i64 q.1, .int .i64 q.2.1, .int .i64 q.2.2] 46)).cell? ⟨w2.heap.size, 0, none⟩ = some (.int .i64 q.1) := HX3.out.cell 0
  have x1 : (w2.alloc (.cells #[.int .i64 q.1, .int .i64 q.2.1, .int .i64 q.2.2] 46)).cell? ⟨w2.heap.size, 1, none⟩ = some (.int .i64 q.2.1) := HX3.out.cell 1
  have x2 : (w2.alloc (.cells #[.int .i64 q.1, .int .i64 q.2.1, .int .i64 q.2.2] 46)).cell? ⟨w2.heap.size, 2, none⟩ = some (.int .i64 q.2.2) := HX3.out.cell 2
  have hf2 := HX3.out.frozen 2
  clear HM HER HGS
  by_cases hlt : q.2.2 < now
  · have C5 := Lib.hid (fun w' hb => rwith_any (w := w') (bad := bad) ad c (q.1, q.2.1, now) (HO.out.below hb) hl)
    rw [show max q.2.2 now = now by omega] at hM
    rw [← hM] at C5
    unfold tv at C5
    simp only at C5
    clear hM
    go_wp2_with fail
    refine (C5.out _ BN.out).mono ?_
    rintro e w5 ⟨v5, rfl, own5, bel5⟩
    go_wp2
    exact ret_two rfl rfl rfl rfl (Told.fresh BN.out own5 bel5)
  · have C5 := Lib.hid (fun w' hb => rwith_any (w := w') (bad := bad) ad c (q.1, q.2.1, q.2.2) (HO.out.below hb) hl)
    rw [show max q.2.2 now = q.2.2 by omega] at hM
    rw [← hM] at C5
    unfold tv at C5
    simp only at C5
    clear hM
    go_wp2_with fail
    refine (C5.out _ B3.out).mono ?_
    rintro e w5 ⟨v5, rfl, own5, bel5⟩
    go_wp2
    exact ret_two rfl rfl rfl rfl (Told.fresh B3.out own5 bel5)

theorem rclose_any {bad : Nat → Prop} (ad : Option Addr) (c : Nat) (id : Int) (h : Sees w bad ad L) (hc : L.length ≤ c) (hg : Good L) :
    Calls Try.prog 44 #[.slice ad L.length c, .int .i64 id] w (Told w bad (if isIn L id then delL L id else L) (if isIn L id then 0 else 100)) := by
  have hl : L.length ≤ 1000 := Nat.le_trans hg.many (by omega)
  have HO := Lib.hid h
  have C1 := Lib.hid (rget_any ad c id h hl)
  have HG := Lib.hid hg.rises
  clear h hg
  obtain ⟨M, hM⟩ : ∃ M, M = (if isIn L id then delL L id else L) := ⟨_, rfl⟩
  obtain ⟨er, her⟩ : ∃ er : Int, er = (if isIn L id then 0 else 100) := ⟨_, rfl⟩
  rw [← hM, ← her]
  have HM := Lib.hid hM
  have HER := Lib.hid her
  clear hM her
  go_enter Try.func44, Try.ntmps44
  go_wp2_with fail
  refine C1.out.mono ?_
  rintro e w2 ⟨rfl, bel2⟩
  obtain ⟨q, hq⟩ : ∃ q, q = (findL L id).getD zl := ⟨_, rfl⟩
  rw [← hq]
  have hs2 := bel2.size
  have B3 := Lib.hid (bel2.alloc hs2 (.cells #[.int .i64 q.1, .int .i64 q.2.1, .int .i64 q.2.2] 46))
  have C5 := Lib.hid (rwithout_any ad c id (HO.out.below B3.out) hl)
  unfold tv
  clear hq bel2 C1
  cases hi : isIn L id
  · have hM : M = L := by rw [HM.out, hi]; rfl
    have her : er = 100 := by rw [HER.out, hi]; rfl
    subst hM her
    go_wp2
    exact ret_two rfl rfl rfl rfl (Told.same HO.out hc B3.out)
  · have hM : M = outL L id L.length := by rw [HM.out, hi]; exact (out_del HG.out id hi).symm
    have her : er = 0 := by rw [HER.out, hi]; rfl
    subst her
    rw [← hM] at C5
    clear hM HM HER
    go_wp2_with fail
    refine C5.out.mono ?_
    rintro e w5 ⟨v5, rfl, own5, bel5⟩
    go_wp2
    exact ret_two rfl rfl rfl rfl (Told.fresh B3.out own5 bel5)
/-- Do. -/
theorem rdo_any {bad : Nat → Prop} (o : Op10) (ad : Option Addr) (c : Nat) (h : Sees w bad ad L) (hc : L.length ≤ c) (hg : Good L) (hbad : ∀ k, bad k → k < w.heap.size) :
    Calls Try.prog 30 #[.slice ad L.length c, ov o] w (Told w bad (stepL o L).2 (stepL o L).1) := by
  obtain ⟨kd, id, span, now⟩ := o
  have hB := Lib.hid ((Below.refl w.heap.size w).alloc (Nat.le_refl _) (.cells #[.int .i64 kd, .int .i64 id, .int .i64 span, .int .i64 now] 62))
  have hS := h.below hB.out
  have HBAD := Lib.hid hbad
  have HS := Lib.hid h
  unfold ov
  clear hbad h
  by_cases h0 : kd = 0
  · subst h0
    obtain ⟨r, hr⟩ : ∃ r, stepL ⟨0, id, span, now⟩ L = r := ⟨_, rfl⟩
    have C := Lib.hid (show Calls Try.prog 42 #[.slice ad L.length c, .int .i64 id, .int .i64 span, .int .i64 now] (w.alloc (.cells #[.int .i64 0, .int .i64 id, .int .i64 span, .int .i64 now] 62)) (Told _ bad r.2 r.1) from by rw [← hr]; exact ropen_any ad c (id, span, now) hS hc hg)
    rw [hr]
    clear hr hS
    go_enter Try.func30, Try.ntmps30
    go_wp2_with fail
    refine C.out.mono ?_
    rintro e w1 ht
    obtain ⟨ad1, c1, rfl, hc1, hs1, hb1⟩ := ht.from hB.out HBAD.out
    go_wp2
    exact ret_two rfl rfl rfl rfl ⟨ad1, c1, rfl, hc1, hs1, hb1⟩
  by_cases h1 : kd = 1
  · subst h1
    obtain ⟨r, hr⟩ : ∃ r, stepL ⟨1, id, span, now⟩ L = r := ⟨_, rfl⟩
    have C := Lib.hid (show Calls Try.prog 43 #[.slice ad L.length c, .int .i64 id, .int .i64 now] (w.alloc (.cells #[.int .i64 1, .int .i64 id, .int .i64 span, .int .i64 now] 62)) (Told _ bad r.2 r.1) from by rw [← hr]; exact rrenew_any ad c id now hS hc hg)
    rw [hr]
    clear hr hS
    go_enter Try.func30, Try.ntmps30
    go_wp2_with fail
    refine C.out.mono ?_
    rintro e w1 ht
    obtain ⟨ad1, c1, rfl, hc1, hs1, hb1⟩ := ht.from hB.out HBAD.out
    go_wp2
    exact ret_two rfl rfl rfl rfl ⟨ad1, c1, rfl, hc1, hs1, hb1⟩
  by_cases h2 : kd = 2
  · subst h2
    obtain ⟨r, hr⟩ : ∃ r, stepL ⟨2, id, span, now⟩ L = r := ⟨_, rfl⟩
    have C := Lib.hid (show Calls Try.prog 44 #[.slice ad L.length c, .int .i64 id] (w.alloc (.cells #[.int .i64 2, .int .i64 id, .int .i64 span, .int .i64 now] 62)) (Told _ bad r.2 r.1) from by rw [← hr]; exact rclose_any ad c id hS hc hg)
    rw [hr]
    clear hr hS
    go_enter Try.func30, Try.ntmps30
    go_wp2_with fail
    refine C.out.mono ?_
    rintro e w1 ht
    obtain ⟨ad1, c1, rfl, hc1, hs1, hb1⟩ := ht.from hB.out HBAD.out
    go_wp2
    exact ret_two rfl rfl rfl rfl ⟨ad1, c1, rfl, hc1, hs1, hb1⟩
  have e : stepL ⟨kd, id, span, now⟩ L = (0, L) := by simp [stepL, h0, h1, h2]
  rw [e]
  have n0 : (kd == 0) = false := by simp [h0]
  have n1 : (kd == 1) = false := by simp [h1]
  have n2 : (kd == 2) = false := by simp [h2]
  clear e h0 h1 h2 hS
  go_enter Try.func30, Try.ntmps30
  go_wp2
  exact ret_two rfl rfl rfl rfl (Told.same HS.out hc hB.out)
end Go.Proofs.Ytkgnooogppkieaa
