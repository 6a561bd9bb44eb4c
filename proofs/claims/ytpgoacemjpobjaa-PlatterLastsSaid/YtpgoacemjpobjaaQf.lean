/- The document's disk: Do. Conditions: its rows lie in memory. -/
import Derived.Test.YtpgoacemjpobjaaQe
import Derived.Test.YtpgoacemjpobjaaSteps
namespace Go.Proofs.Ytpgoacemjpobjaa
open Go Go.RowKit
set_option linter.unusedVariables false
set_option linter.unusedSimpArgs false
variable {w w' : World} {base n : Nat} {bad bad' : Nat → Prop} {D : Dk}

structure Op4 where
  kd : Int
  n : Int
  tear : Int
  b : Sec
/-- a call: the disk behind it, and the answer. -/
def stepA (o : Op4) (D : Dk) : Dk × Sec × Int :=
  if o.kd = 3 then (armD D o.n, [], 0)
  else if o.kd = 4 then (crashD D o.n o.tear, [], 0)
  else if o.kd < 0 ∨ 4 < o.kd then (D, [], 0)
  else if D.dead then (D, [], 40)
  else if o.kd = 2 then (syncD D, [], syncE D)
  else if o.n < 0 ∨ (D.firm.length : Int) ≤ o.n ∨ (o.kd = 0 ∧ 64 < o.b.length) then (D, [], 41)
  else if o.kd = 1 then (D, lastAt D D.wait.length o.n.toNat, 0)
  else (diesD (putD D o.n.toNat (pad o.b)), [], if diesB D then 40 else 0)
def ov (o : Op4) (ad : Option Addr) (cap : Nat) : Value := .agg #[.int .i64 o.kd, .int .i64 o.n, .int .i64 o.tear, .slice ad o.b.length cap]
def Done (w : World) (bad : Nat → Prop) (r : Dk × Sec × Int) (e : Ending) (w' : World) : Prop :=
  ∃ af aw cf cw, e = .returned (.tuple #[rdv af aw cf cw r.1, .agg #[st r.2.1, .int .i64 r.2.2]]) ∧ RAt w' (fun i => bad i ∧ i < w.heap.size) af aw cf cw r.1 ∧ Below w.heap.size w w'
theorem ret_box2 {fn : Func} {R : Ending → World → Prop} {act : Act} {w : World} {t u : Nat} {b c : Nat} {x y z q s e : Value} (h : fn.results = #[.cell t 28, .cell u 48]) (hd : act.defers = []) (ht : act.tmps.getD t undef = .pointer (some ⟨b, 0, none⟩)) (hu : act.tmps.getD u undef = .pointer (some ⟨c, 0, none⟩))
    (hb : Box w b 28 #[x, y, z, q]) (hc : Box w c 48 #[s, e]) (hR : R (.returned (.tuple #[.agg #[x, y, z, q], .agg #[s, e]])) w) : bodyPost Try.prog fn R .ret act w := by
  have c0 : w.cell? ⟨b, 0, none⟩ = some x := hb.cell 0
  have c1 : w.cell? ⟨b, 1, none⟩ = some y := hb.cell 1
  have c2 : w.cell? ⟨b, 2, none⟩ = some z := hb.cell 2
  have c3 : w.cell? ⟨b, 3, none⟩ = some q := hb.cell 3
  have d0 : w.cell? ⟨c, 0, none⟩ = some s := hc.cell 0
  have d1 : w.cell? ⟨c, 1, none⟩ = some e := hc.cell 1
  refine bodyPost_ret (v := .tuple #[.agg #[x, y, z, q], .agg #[s, e]]) ?_ hd hR
  rw [Array.getD_eq_getD_getElem?] at ht hu
  simp [results, h, ht, hu, go_sem, c0, c1, c2, c3, d0, d1]
theorem RAt.mono {af aw : Option Addr} {cf cw : Nat} (h : RAt w bad af aw cf cw D) (hb : ∀ k, k < w.heap.size → bad' k → bad k) : RAt w bad' af aw cf cw D := ⟨h.f.mono hb, h.w.mono hb, h.cf, h.cw⟩
theorem RAt.bel {af aw : Option Addr} {cf cw : Nat} (h : RAt w bad af aw cf cw D) (hb : Below w.heap.size w w') : RAt w' bad af aw cf cw D := ⟨h.f.bel hb, h.w.bel hb, h.cf, h.cw⟩
theorem RAt.same {af aw : Option Addr} {cf cw : Nat} (h : RAt w bad af aw cf cw D) {D' : Dk} (h1 : D'.firm = D.firm) (h2 : D'.wait = D.wait) : RAt w bad af aw cf cw D' := ⟨by rw [h1]; exact h.f, by rw [h2]; exact h.w, by rw [h1]; exact h.cf, by rw [h2]; exact h.cw⟩
/-- the end, no call made. -/
theorem rdo_end {c1 c2 : Array Value} {x y z q s e : Value} {act : Act} {POST : Ending → World → Prop} (hd : act.defers = []) (ht : act.tmps.getD 4 undef = .pointer (some ⟨w.heap.size + 1 + 1, 0, none⟩)) (hu : act.tmps.getD 5 undef = .pointer (some ⟨w.heap.size + 1 + 1 + 1, 0, none⟩))
    (hR : ∀ w', Below w.heap.size w w' → POST (.returned (.tuple #[.agg #[x, y, z, q], .agg #[s, e]])) w') :
    bodyPost Try.prog Try.f24 POST .ret act ((((w.alloc (.cells c1 28)).alloc (.cells c2 46)).alloc (.cells #[x, y, z, q] 28)).alloc (.cells #[s, e] 48)) := by
  have hb := (Box.new ((w.alloc (.cells c1 28)).alloc (.cells c2 46)) 28 #[x, y, z, q]).alloc (.cells #[s, e] 48)
  have hc := Box.new (((w.alloc (.cells c1 28)).alloc (.cells c2 46)).alloc (.cells #[x, y, z, q] 28)) 48 #[s, e]
  simp only [World.size_alloc] at hb hc
  exact ret_box2 Try.results24 hd ht hu hb hc (hR _ (((((Below.refl w.heap.size w).alloc (Nat.le_refl _) _).alloc (by simp) _).alloc (by simp; omega) _).alloc (by simp; omega) _))
/-- the end behind calls. -/
theorem rdo_fin {w1 : World} {x y z q s e : Value} {x0 y0 z0 q0 s0 e0 : Value} {act : Act} {POST : Ending → World → Prop} (hB : Below w.heap.size w w1) (hb : Box w1 (w.heap.size + 1 + 1) 28 #[x0, y0, z0, q0]) (hc : Box w1 (w.heap.size + 1 + 1 + 1) 48 #[s0, e0])
    (hd : act.defers = []) (ht : act.tmps.getD 4 undef = .pointer (some ⟨w.heap.size + 1 + 1, 0, none⟩)) (hu : act.tmps.getD 5 undef = .pointer (some ⟨w.heap.size + 1 + 1 + 1, 0, none⟩))
    (hR : ∀ w', Below w.heap.size w w' → (∀ k, k ≠ w.heap.size + 1 + 1 → k ≠ w.heap.size + 1 + 1 + 1 → w'.heap[k]? = w1.heap[k]?) → w1.heap.size ≤ w'.heap.size → POST (.returned (.tuple #[.agg #[x, y, z, q], .agg #[s, e]])) w') :
    bodyPost Try.prog Try.f24 POST .ret act ((((((w1.setCell ⟨w.heap.size + 1 + 1, 0, none⟩ x).setCell ⟨w.heap.size + 1 + 1, 1, none⟩ y).setCell ⟨w.heap.size + 1 + 1, 2, none⟩ z).setCell ⟨w.heap.size + 1 + 1, 3, none⟩ q).setCell ⟨w.heap.size + 1 + 1 + 1, 0, none⟩ s).setCell ⟨w.heap.size + 1 + 1 + 1, 1, none⟩ e) := by
  have n1 : w.heap.size + 1 + 1 + 1 ≠ w.heap.size + 1 + 1 := by omega
  have p1 : ∀ j, w.heap.size ≤ (⟨w.heap.size + 1 + 1, j, none⟩ : Addr).block := fun j => by show w.heap.size ≤ w.heap.size + 1 + 1; omega
  have p2 : ∀ j, w.heap.size ≤ (⟨w.heap.size + 1 + 1 + 1, j, none⟩ : Addr).block := fun j => by show w.heap.size ≤ w.heap.size + 1 + 1 + 1; omega
  refine ret_box2 Try.results24 hd ht hu ((((((hb.set 0 x).set 1 y).set 2 z).set 3 q).set_other (p := ⟨w.heap.size + 1 + 1 + 1, 0, none⟩) (Ne.symm n1) s).set_other (p := ⟨w.heap.size + 1 + 1 + 1, 1, none⟩) (Ne.symm n1) e)
    ((((((hc.set_other (p := ⟨w.heap.size + 1 + 1, 0, none⟩) n1 x).set_other (p := ⟨w.heap.size + 1 + 1, 1, none⟩) n1 y).set_other (p := ⟨w.heap.size + 1 + 1, 2, none⟩) n1 z).set_other (p := ⟨w.heap.size + 1 + 1, 3, none⟩) n1 q).set 0 s).set 1 e)
    (hR _ ((((((hB.setCell (p1 0) _).setCell (p1 1) _).setCell (p1 2) _).setCell (p1 3) _).setCell (p2 0) _).setCell (p2 1) _) (fun k h1 h2 => ?_) (by simp [World.setCell]))
  exact (Below.heap_setCell _ _ _ _ h2).trans ((Below.heap_setCell _ _ _ _ h2).trans ((Below.heap_setCell _ _ _ _ h1).trans ((Below.heap_setCell _ _ _ _ h1).trans ((Below.heap_setCell _ _ _ _ h1).trans (Below.heap_setCell _ _ _ _ h1)))))
/-- the end behind calls and an alloc. -/
theorem rdo_finA {w1 : World} {x y z q s e : Value} {x0 y0 z0 q0 s0 e0 : Value} {obj : Obj} {act : Act} {POST : Ending → World → Prop} (hB : Below w.heap.size w w1) (hb : Box w1 (w.heap.size + 1 + 1) 28 #[x0, y0, z0, q0]) (hc : Box w1 (w.heap.size + 1 + 1 + 1) 48 #[s0, e0])
    (hd : act.defers = []) (ht : act.tmps.getD 4 undef = .pointer (some ⟨w.heap.size + 1 + 1, 0, none⟩)) (hu : act.tmps.getD 5 undef = .pointer (some ⟨w.heap.size + 1 + 1 + 1, 0, none⟩))
    (hR : ∀ w', Below w.heap.size w w' → (∀ k, k < w1.heap.size → k ≠ w.heap.size + 1 + 1 → k ≠ w.heap.size + 1 + 1 + 1 → w'.heap[k]? = w1.heap[k]?) → w1.heap.size ≤ w'.heap.size → POST (.returned (.tuple #[.agg #[x, y, z, q], .agg #[s, e]])) w') :
    bodyPost Try.prog Try.f24 POST .ret act (((((((w1.setCell ⟨w.heap.size + 1 + 1, 0, none⟩ x).setCell ⟨w.heap.size + 1 + 1, 1, none⟩ y).setCell ⟨w.heap.size + 1 + 1, 2, none⟩ z).setCell ⟨w.heap.size + 1 + 1, 3, none⟩ q).setCell ⟨w.heap.size + 1 + 1 + 1, 0, none⟩ s).setCell ⟨w.heap.size + 1 + 1 + 1, 1, none⟩ e).alloc obj) := by
  have n1 : w.heap.size + 1 + 1 + 1 ≠ w.heap.size + 1 + 1 := by omega
  have p1 : ∀ j, w.heap.size ≤ (⟨w.heap.size + 1 + 1, j, none⟩ : Addr).block := fun j => by show w.heap.size ≤ w.heap.size + 1 + 1; omega
  have p2 : ∀ j, w.heap.size ≤ (⟨w.heap.size + 1 + 1 + 1, j, none⟩ : Addr).block := fun j => by show w.heap.size ≤ w.heap.size + 1 + 1 + 1; omega
  refine ret_box2 Try.results24 hd ht hu (((((((hb.set 0 x).set 1 y).set 2 z).set 3 q).set_other (p := ⟨w.heap.size + 1 + 1 + 1, 0, none⟩) (Ne.symm n1) s).set_other (p := ⟨w.heap.size + 1 + 1 + 1, 1, none⟩) (Ne.symm n1) e).alloc obj)
    (((((((hc.set_other (p := ⟨w.heap.size + 1 + 1, 0, none⟩) n1 x).set_other (p := ⟨w.heap.size + 1 + 1, 1, none⟩) n1 y).set_other (p := ⟨w.heap.size + 1 + 1, 2, none⟩) n1 z).set_other (p := ⟨w.heap.size + 1 + 1, 3, none⟩) n1 q).set 0 s).set 1 e).alloc obj)
    (hR _ (((((((hB.setCell (p1 0) _).setCell (p1 1) _).setCell (p1 2) _).setCell (p1 3) _).setCell (p2 0) _).setCell (p2 1) _).alloc (by have := hB.size; simp [World.setCell]; try omega) obj) (fun k h0 h1 h2 => ?_) (by simp [World.setCell]; try omega))
  refine (Below.heap_alloc _ _ k (by simpa [World.setCell] using h0)).trans ?_
  exact (Below.heap_setCell _ _ _ _ h2).trans ((Below.heap_setCell _ _ _ _ h2).trans ((Below.heap_setCell _ _ _ _ h1).trans ((Below.heap_setCell _ _ _ _ h1).trans ((Below.heap_setCell _ _ _ _ h1).trans (Below.heap_setCell _ _ _ _ h1)))))

set_option maxHeartbeats 1000000 in
theorem rdo_3 {af aw ad : Option Addr} {cf cw cap : Nat} (o : Op4) (h : RAt w bad af aw cf cw D) (hm : o.b.length ≤ maxLen) (h3 : o.kd = 3) : Calls Try.prog 24 #[rdv af aw cf cw D, ov o ad cap] w (Done w bad (stepA o D)) := by
  have hs : stepA o D = (armD D o.n, [], 0) := by unfold stepA; rw [if_pos h3]
  rw [hs]
  have HH := Lib.hid h
  obtain ⟨len, hlen⟩ : ∃ len, len = o.b.length := ⟨_, rfl⟩
  have hov : ov o ad cap = .agg #[.int .i64 o.kd, .int .i64 o.n, .int .i64 o.tear, .slice ad len cap] := by rw [hlen]; rfl
  rw [hov]
  unfold maxLen at hm
  show Calls Try.prog 24 #[.agg #[.slice af D.firm.length cf, .slice aw D.wait.length cw, .int .i64 D.armed, .bool D.dead], .agg #[.int .i64 o.kd, .int .i64 o.n, .int .i64 o.tear, .slice ad len cap]] w _
  have q3 : (o.kd == 3) = true := by simpa using h3
  obtain ⟨A, hA⟩ : ∃ A : Int, (if o.n < 0 then 0 else o.n) = A := ⟨_, rfl⟩
  have hAA : armD D o.n = { D with armed := A } := by unfold armD; rw [← hA]; congr 1; split <;> omega
  rw [hAA]
  clear h3 hAA hlen hm
  clear h hs hov
  go_enter Try.func24, Try.ntmps24
  go_wp2
  exact rdo_end rfl rfl rfl fun w' hB => ⟨af, aw, cf, cw, rfl, ((HH.out.same (by rfl) (by rfl)).mono (fun _ _ h => h.1)).bel hB, hB⟩

set_option maxHeartbeats 1000000 in
theorem rdo_x {af aw ad : Option Addr} {cf cw cap : Nat} (o : Op4) (h : RAt w bad af aw cf cw D) (hm : o.b.length ≤ maxLen) (h3 : o.kd ≠ 3) (h4 : o.kd ≠ 4) (hx : o.kd < 0 ∨ 4 < o.kd) : Calls Try.prog 24 #[rdv af aw cf cw D, ov o ad cap] w (Done w bad (stepA o D)) := by
  have hs : stepA o D = (D, [], 0) := by unfold stepA; rw [if_neg h3, if_neg h4, if_pos hx]
  rw [hs]
  have HH := Lib.hid h
  obtain ⟨len, hlen⟩ : ∃ len, len = o.b.length := ⟨_, rfl⟩
  have hov : ov o ad cap = .agg #[.int .i64 o.kd, .int .i64 o.n, .int .i64 o.tear, .slice ad len cap] := by rw [hlen]; rfl
  rw [hov]
  unfold maxLen at hm
  show Calls Try.prog 24 #[.agg #[.slice af D.firm.length cf, .slice aw D.wait.length cw, .int .i64 D.armed, .bool D.dead], .agg #[.int .i64 o.kd, .int .i64 o.n, .int .i64 o.tear, .slice ad len cap]] w _
  have q3 : (o.kd == 3) = false := by simpa using h3
  have q4 : (o.kd == 4) = false := by simpa using h4
  clear h3 h4 hlen hm
  clear h hs hov
  have qx : (decide (o.kd < 0) || decide (4 < o.kd)) = true := by simpa using hx
  go_enter Try.func24, Try.ntmps24
  rcases hx with hx | hx
  all_goals go_wp2
  all_goals exact rdo_end rfl rfl rfl fun w' hB => ⟨af, aw, cf, cw, rfl, ((HH.out.same (by rfl) (by rfl)).mono (fun _ _ h => h.1)).bel hB, hB⟩

set_option maxHeartbeats 1000000 in
theorem rdo_d {af aw ad : Option Addr} {cf cw cap : Nat} (o : Op4) (h : RAt w bad af aw cf cw D) (hm : o.b.length ≤ maxLen) (h3 : o.kd ≠ 3) (h4 : o.kd ≠ 4) (hx : ¬ (o.kd < 0 ∨ 4 < o.kd)) (hd : D.dead = true) : Calls Try.prog 24 #[rdv af aw cf cw D, ov o ad cap] w (Done w bad (stepA o D)) := by
  have hs : stepA o D = (D, [], 40) := by unfold stepA; rw [if_neg h3, if_neg h4, if_neg hx, if_pos hd]
  rw [hs]
  have HH := Lib.hid h
  obtain ⟨len, hlen⟩ : ∃ len, len = o.b.length := ⟨_, rfl⟩
  have hov : ov o ad cap = .agg #[.int .i64 o.kd, .int .i64 o.n, .int .i64 o.tear, .slice ad len cap] := by rw [hlen]; rfl
  rw [hov]
  unfold maxLen at hm
  show Calls Try.prog 24 #[.agg #[.slice af D.firm.length cf, .slice aw D.wait.length cw, .int .i64 D.armed, .bool D.dead], .agg #[.int .i64 o.kd, .int .i64 o.n, .int .i64 o.tear, .slice ad len cap]] w _
  have q3 : (o.kd == 3) = false := by simpa using h3
  have q4 : (o.kd == 4) = false := by simpa using h4
  have q5 : ¬ o.kd < 0 := fun h => hx (.inl h)
  have q6 : ¬ 4 < o.kd := fun h => hx (.inr h)
  clear h3 h4 hlen hm hx
  clear h hs hov
  go_enter Try.func24, Try.ntmps24
  go_wp2
  exact rdo_end rfl rfl rfl fun w' hB => ⟨af, aw, cf, cw, (by unfold rdv st; rw [hd]), ((HH.out.same (by rfl) (by rfl)).mono (fun _ _ h => h.1)).bel hB, hB⟩

set_option maxHeartbeats 1000000 in
theorem rdo_41 {af aw ad : Option Addr} {cf cw cap : Nat} (o : Op4) (h : RAt w bad af aw cf cw D) (hm : o.b.length ≤ maxLen) (h3 : o.kd ≠ 3) (h4 : o.kd ≠ 4) (hx : ¬ (o.kd < 0 ∨ 4 < o.kd)) (hd : D.dead = false) (h2 : o.kd ≠ 2) (hb : o.n < 0 ∨ (D.firm.length : Int) ≤ o.n ∨ (o.kd = 0 ∧ 64 < o.b.length)) : Calls Try.prog 24 #[rdv af aw cf cw D, ov o ad cap] w (Done w bad (stepA o D)) := by
  have hs : stepA o D = (D, [], 41) := by unfold stepA; rw [if_neg h3, if_neg h4, if_neg hx, hd, if_neg (by decide), if_neg h2, if_pos hb]
  rw [hs]
  have HH := Lib.hid h
  obtain ⟨len, hlen⟩ : ∃ len, len = o.b.length := ⟨_, rfl⟩
  have hov : ov o ad cap = .agg #[.int .i64 o.kd, .int .i64 o.n, .int .i64 o.tear, .slice ad len cap] := by rw [hlen]; rfl
  rw [hov]
  unfold maxLen at hm
  show Calls Try.prog 24 #[.agg #[.slice af D.firm.length cf, .slice aw D.wait.length cw, .int .i64 D.armed, .bool D.dead], .agg #[.int .i64 o.kd, .int .i64 o.n, .int .i64 o.tear, .slice ad len cap]] w _
  have q3 : (o.kd == 3) = false := by simpa using h3
  have q4 : (o.kd == 4) = false := by simpa using h4
  have q5 : ¬ o.kd < 0 := fun h => hx (.inl h)
  have q6 : ¬ 4 < o.kd := fun h => hx (.inr h)
  have q2 : (o.kd == 2) = false := by simpa using h2
  rw [← hlen] at hb
  clear h3 h4 hx h2 hlen hm
  clear h hs hov
  by_cases g1 : o.n < 0
  · clear hb
    go_enter Try.func24, Try.ntmps24
    go_wp2
    exact rdo_end rfl rfl rfl fun w' hB => ⟨af, aw, cf, cw, (by unfold rdv st; rw [hd]), ((HH.out.same (by rfl) (by rfl)).mono (fun _ _ h => h.1)).bel hB, hB⟩
  · by_cases g2 : (D.firm.length : Int) ≤ o.n
    · clear hb
      go_enter Try.func24, Try.ntmps24
      go_wp2
      exact rdo_end rfl rfl rfl fun w' hB => ⟨af, aw, cf, cw, (by unfold rdv st; rw [hd]), ((HH.out.same (by rfl) (by rfl)).mono (fun _ _ h => h.1)).bel hB, hB⟩
    · obtain ⟨g3, g4⟩ : o.kd = 0 ∧ 64 < len := (hb.resolve_left g1).resolve_left g2
      have g3' : (o.kd == 0) = true := by simpa using g3
      have g4' : (64 : Int) < (len : Int) := by omega
      clear hb g4 g3
      go_enter Try.func24, Try.ntmps24
      go_wp2
      exact rdo_end rfl rfl rfl fun w' hB => ⟨af, aw, cf, cw, (by unfold rdv st; rw [hd]), ((HH.out.same (by rfl) (by rfl)).mono (fun _ _ h => h.1)).bel hB, hB⟩

theorem RAt.stays {af aw : Option Addr} {cf cw : Nat} (h : RAt w bad af aw cf cw D) (hs : w.heap.size ≤ w'.heap.size) (hk : ∀ k, k < w.heap.size → ¬ bad k → w'.heap[k]? = w.heap[k]?) : RAt w' bad af aw cf cw D := ⟨h.f.stays hs hk, h.w.stays hs hk, h.cf, h.cw⟩
/-- a world with the four boxes. -/
structure Four (w w0 : World) (c1 c2 : Array Value) : Prop where
  x : Box w0 w.heap.size 28 c1
  o : Box w0 (w.heap.size + 1) 46 c2
  z : Box w0 (w.heap.size + 1 + 1) 28 #[.slice none 0 0, .slice none 0 0, .int .i64 0, .bool false]
  a : Box w0 (w.heap.size + 1 + 1 + 1) 48 #[.string ⟨#[]⟩, .int .i64 0]
  b : Below w.heap.size w w0
  s : w.heap.size + 1 + 1 + 1 < w0.heap.size
theorem Four.new (w : World) (c1 c2 : Array Value) : Four w ((((w.alloc (.cells c1 28)).alloc (.cells c2 46)).alloc (.cells #[.slice none 0 0, .slice none 0 0, .int .i64 0, .bool false] 28)).alloc (.cells #[.string ⟨#[]⟩, .int .i64 0] 48)) c1 c2 := by
  refine ⟨(((Box.new w 28 c1).alloc _).alloc _).alloc _, ?_, ?_, ?_, ((((Below.refl w.heap.size w).alloc (Nat.le_refl _) _).alloc (by simp) _).alloc (by simp; omega) _).alloc (by simp; omega) _, by simp⟩
  · have := ((Box.new (w.alloc (.cells c1 28)) 46 c2).alloc (.cells #[.slice none 0 0, .slice none 0 0, .int .i64 0, .bool false] 28)).alloc (.cells #[.string ⟨#[]⟩, .int .i64 0] 48); simpa using this
  · have := (Box.new ((w.alloc (.cells c1 28)).alloc (.cells c2 46)) 28 #[.slice none 0 0, .slice none 0 0, .int .i64 0, .bool false]).alloc (.cells #[.string ⟨#[]⟩, .int .i64 0] 48); simpa using this
  · have := Box.new (((w.alloc (.cells c1 28)).alloc (.cells c2 46)).alloc (.cells #[.slice none 0 0, .slice none 0 0, .int .i64 0, .bool false] 28)) 48 #[.string ⟨#[]⟩, .int .i64 0]; simpa using this
theorem Four.below {w0 w1 : World} {c1 c2 : Array Value} (h : Four w w0 c1 c2) (hb : Below w0.heap.size w0 w1) : Four w w1 c1 c2 :=
  ⟨h.x.below hb h.x.lt, h.o.below hb h.o.lt, h.z.below hb h.z.lt, h.a.below hb h.a.lt, h.b.trans (hb.mono (h.b.size)), Nat.lt_of_lt_of_le h.s hb.size⟩
theorem RAt.four {w0 : World} {c1 c2 : Array Value} {af aw : Option Addr} {cf cw : Nat} (h : RAt w bad af aw cf cw D) (hf : Four w w0 c1 c2) : RAt w0 (fun i => bad i ∨ w.heap.size ≤ i) af aw cf cw D :=
  (h.mono (bad' := fun i => bad i ∨ w.heap.size ≤ i) (fun k hk hh => hh.elim id (fun h => by omega))).bel hf.b

set_option maxHeartbeats 1000000 in
theorem rdo_4 {af aw ad : Option Addr} {cf cw cap : Nat} (o : Op4) (h : RAt w bad af aw cf cw D) (hg : Good D) (hwl : D.wait.length ≤ 1000000) (hm : o.b.length ≤ maxLen) (h4 : o.kd = 4) : Calls Try.prog 24 #[rdv af aw cf cw D, ov o ad cap] w (Done w bad (stepA o D)) := by
  have hs : stepA o D = (crashD D o.n o.tear, [], 0) := by unfold stepA; rw [if_neg (by omega), if_pos h4]
  obtain ⟨r, hr⟩ : ∃ r, r = stepA o D := ⟨_, rfl⟩
  rw [← hr]
  have HRR := Lib.hid (hr.trans hs)
  obtain ⟨len, hlen⟩ : ∃ len, len = o.b.length := ⟨_, rfl⟩
  have hov : ov o ad cap = .agg #[.int .i64 o.kd, .int .i64 o.n, .int .i64 o.tear, .slice ad len cap] := by rw [hlen]; rfl
  rw [hov]
  unfold maxLen at hm
  show Calls Try.prog 24 #[.agg #[.slice af D.firm.length cf, .slice aw D.wait.length cw, .int .i64 D.armed, .bool D.dead], .agg #[.int .i64 o.kd, .int .i64 o.n, .int .i64 o.tear, .slice ad len cap]] w _
  have HF := Lib.hid (Four.new w #[.slice af D.firm.length cf, .slice aw D.wait.length cw, .int .i64 D.armed, .bool D.dead] #[.int .i64 o.kd, .int .i64 o.n, .int .i64 o.tear, .slice ad len cap])
  have HH := Lib.hid h
  have HG := Lib.hid hg
  have HWL := Lib.hid hwl
  have q3 : (o.kd == 3) = false := by rw [h4]; rfl
  have q4 : (o.kd == 4) = true := by simpa using h4
  clear h4 hlen hm
  clear h hg hwl hs hov hr
  go_enter Try.func24, Try.ntmps24
  go_wp2_with fail
  generalize ((((w.alloc (.cells #[.slice af D.firm.length cf, .slice aw D.wait.length cw, .int .i64 D.armed, .bool D.dead] 28)).alloc (.cells #[.int .i64 o.kd, .int .i64 o.n, .int .i64 o.tear, .slice ad len cap] 46)).alloc (.cells #[.slice none 0 0, .slice none 0 0, .int .i64 0, .bool false] 28)).alloc (.cells #[.string ⟨#[]⟩, .int .i64 0] 48)) = w0 at HF ⊢
  have C1 := Lib.hid (rcrash_any (cf := cf) (cw := cw) o.n o.tear (HH.out.four HF.out) HG.out HWL.out)
  unfold rdv at C1
  refine C1.out.mono ?_
  rintro e w1 ⟨ar, cr, rfl, hr1, bl1⟩
  have HF1 := Lib.hid (HF.out.below bl1)
  have HR1 := Lib.hid hr1
  have HS0 := Lib.hid HF.out.s
  have HZ1 := Lib.hid HF1.out.z
  have HA1 := Lib.hid HF1.out.a
  clear hr1 bl1 C1
  have z0 : w1.cell? ⟨w.heap.size + 1 + 1, 0, none⟩ = some (.slice none 0 0) := HZ1.out.cell 0
  have z1 : w1.cell? ⟨w.heap.size + 1 + 1, 1, none⟩ = some (.slice none 0 0) := HZ1.out.cell 1
  have z2 : w1.cell? ⟨w.heap.size + 1 + 1, 2, none⟩ = some (.int .i64 0) := HZ1.out.cell 2
  have z3 : w1.cell? ⟨w.heap.size + 1 + 1, 3, none⟩ = some (.bool false) := HZ1.out.cell 3
  have f0 := HZ1.out.frozen 0
  have f1 := HZ1.out.frozen 1
  have f2 := HZ1.out.frozen 2
  have f3 := HZ1.out.frozen 3
  have a0 : w1.cell? ⟨w.heap.size + 1 + 1 + 1, 0, none⟩ = some (.string ⟨#[]⟩) := HA1.out.cell 0
  have a1 : w1.cell? ⟨w.heap.size + 1 + 1 + 1, 1, none⟩ = some (.int .i64 0) := HA1.out.cell 1
  have b0 := HA1.out.frozen 0
  have b1 := HA1.out.frozen 1
  have l0 := HZ1.out.lt
  have l1 := HA1.out.lt
  go_wp2
  rw [HRR.out]
  refine rdo_fin HF1.out.b HZ1.out HA1.out rfl rfl rfl fun w' hB hk hs => ⟨ar, none, cr, 0, rfl, ?_, hB⟩
  exact (HR1.out.stays hs (fun k _ hb => hk k (fun e => hb (by have := HS0.out; omega)) (fun e => hb (by have := HS0.out; omega)))).mono (fun k _ h => Nat.lt_of_lt_of_le h.2 (by have := HS0.out; omega))

theorem dies_form (D : Dk) (hd : D.dead = false) : ∃ A : Int, diesD D = { D with armed := A, dead := diesB D } := by
  unfold diesD diesB
  by_cases h : D.armed = 0
  · exact ⟨D.armed, by rw [if_pos h, if_pos h, ← hd]⟩
  · exact ⟨D.armed - 1, by rw [if_neg h, if_neg h]⟩

set_option maxHeartbeats 1000000 in
theorem rdo_2 {af aw ad : Option Addr} {cf cw cap : Nat} (o : Op4) (h : RAt w bad af aw cf cw D) (hg : Good D) (hwl : D.wait.length ≤ 1000000) (hm : o.b.length ≤ maxLen) (hkd : o.kd = 2) (hd : D.dead = false) : Calls Try.prog 24 #[rdv af aw cf cw D, ov o ad cap] w (Done w bad (stepA o D)) := by
  have hs : stepA o D = (syncD D, [], syncE D) := by unfold stepA; rw [if_neg (by omega), if_neg (by omega), if_neg (by omega), hd, if_neg (by decide), if_pos hkd]
  obtain ⟨r, hr⟩ : ∃ r, r = stepA o D := ⟨_, rfl⟩
  rw [← hr]
  have HRR := Lib.hid (hr.trans hs)
  obtain ⟨len, hlen⟩ : ∃ len, len = o.b.length := ⟨_, rfl⟩
  have hov : ov o ad cap = .agg #[.int .i64 2, .int .i64 o.n, .int .i64 o.tear, .slice ad len cap] := by rw [hlen, ← hkd]; rfl
  rw [hov]
  unfold maxLen at hm
  have hrv : rdv af aw cf cw D = .agg #[.slice af D.firm.length cf, .slice aw D.wait.length cw, .int .i64 D.armed, .bool false] := by unfold rdv; rw [hd]
  rw [hrv]
  show Calls Try.prog 24 #[.agg #[.slice af D.firm.length cf, .slice aw D.wait.length cw, .int .i64 D.armed, .bool false], .agg #[.int .i64 2, .int .i64 o.n, .int .i64 o.tear, .slice ad len cap]] w _
  have HF := Lib.hid (Four.new w #[.slice af D.firm.length cf, .slice aw D.wait.length cw, .int .i64 D.armed, .bool false] #[.int .i64 2, .int .i64 o.n, .int .i64 o.tear, .slice ad len cap])
  have HH := Lib.hid h
  have HG := Lib.hid hg
  have HWL := Lib.hid hwl
  obtain ⟨A, hA⟩ := dies_form D hd
  obtain ⟨q, hq⟩ : ∃ q, q = diesB D := ⟨_, rfl⟩
  have C1 := Lib.hid (fun w0 : World => rdies_any (w := w0) (af := af) (aw := aw) (cf := cf) (cw := cw) (D := D) hg.arm)
  simp only [hrv, hA, ← hq] at C1
  unfold rdv at C1
  simp only at C1
  have hsy : syncD D = if q then { D with armed := A, dead := q } else { D with armed := A, dead := q, firm := laid D.firm D.wait, wait := [] } := by
    unfold syncD; rw [hd, ← hq, hA, ← hq]; rfl
  have hse : syncE D = if q then 40 else 0 := by unfold syncE; rw [hd, ← hq]; rfl
  have HRR := Lib.hid (HRR.out.trans (by rw [hsy, hse] : (syncD D, ([] : Sec), syncE D) = ((if q then { D with armed := A, dead := q } else { D with armed := A, dead := q, firm := laid D.firm D.wait, wait := [] }), [], if q then 40 else 0)))
  clear hkd hlen hm hA hq hsy hse hd
  clear h hg hwl hs hov hr hrv
  go_enter Try.func24, Try.ntmps24
  go_wp2_with fail
  generalize ((((w.alloc (.cells #[.slice af D.firm.length cf, .slice aw D.wait.length cw, .int .i64 D.armed, .bool false] 28)).alloc (.cells #[.int .i64 2, .int .i64 o.n, .int .i64 o.tear, .slice ad len cap] 46)).alloc (.cells #[.slice none 0 0, .slice none 0 0, .int .i64 0, .bool false] 28)).alloc (.cells #[.string ⟨#[]⟩, .int .i64 0] 48)) = w0 at HF ⊢
  refine (C1.out w0).mono ?_
  rintro e w1 ⟨rfl, bl1⟩
  have HF1 := Lib.hid (HF.out.below bl1)
  have HS0 := Lib.hid HF.out.s
  have HS1 := Lib.hid (show w0.heap.size ≤ w1.heap.size from bl1.size)
  have HR1 := Lib.hid ((HH.out.four HF.out).bel bl1)
  clear bl1 C1
  cases q
  rotate_left
  · have HF2 := Lib.hid (HF1.out.below ((Below.refl _ _).alloc (Nat.le_refl _) (.cells #[.slice af D.firm.length cf, .slice aw D.wait.length cw, .int .i64 A, .bool true] 28)))
    have HZ1 := Lib.hid HF2.out.z
    have HA1 := Lib.hid HF2.out.a
    have HX1 := Lib.hid (Box.new w1 28 #[.slice af D.firm.length cf, .slice aw D.wait.length cw, .int .i64 A, .bool true])
    have HR2 := Lib.hid (HR1.out.bel ((Below.refl _ _).alloc (Nat.le_refl _) (.cells #[.slice af D.firm.length cf, .slice aw D.wait.length cw, .int .i64 A, .bool true] 28)))
    have z0 : w1.cell? ⟨w.heap.size + 1 + 1, 0, none⟩ = some (.slice none 0 0) := HF1.out.z.cell 0
    have z1 : w1.cell? ⟨w.heap.size + 1 + 1, 1, none⟩ = some (.slice none 0 0) := HF1.out.z.cell 1
    have z2 : w1.cell? ⟨w.heap.size + 1 + 1, 2, none⟩ = some (.int .i64 0) := HF1.out.z.cell 2
    have z3 : w1.cell? ⟨w.heap.size + 1 + 1, 3, none⟩ = some (.bool false) := HF1.out.z.cell 3
    have f0 := HF1.out.z.frozen 0
    have f1 := HF1.out.z.frozen 1
    have f2 := HF1.out.z.frozen 2
    have f3 := HF1.out.z.frozen 3
    have a0 : w1.cell? ⟨w.heap.size + 1 + 1 + 1, 0, none⟩ = some (.string ⟨#[]⟩) := HF1.out.a.cell 0
    have a1 : w1.cell? ⟨w.heap.size + 1 + 1 + 1, 1, none⟩ = some (.int .i64 0) := HF1.out.a.cell 1
    have b0 := HF1.out.a.frozen 0
    have b1 := HF1.out.a.frozen 1
    have l0 := HF1.out.z.lt
    have l1 := HF1.out.a.lt
    go_wp2
    rw [show r = ({ D with armed := A, dead := true }, [], 40) from HRR.out]
    refine rdo_finA HF1.out.b HF1.out.z HF1.out.a rfl rfl rfl fun w' hB hk hs => ⟨af, aw, cf, cw, rfl, ?_, hB⟩
    exact ((HR1.out.stays hs (fun k h0 hb => hk k h0 (fun e => hb (.inr (by omega))) (fun e => hb (.inr (by omega))))).same (D' := { D with armed := A, dead := true }) rfl rfl).mono (bad' := fun i => bad i ∧ i < w.heap.size) (fun k _ h => .inl h.1)
  · have HX1 := Lib.hid (Box.new w1 28 #[.slice af D.firm.length cf, .slice aw D.wait.length cw, .int .i64 A, .bool false])
    have HF2 := Lib.hid (HF1.out.below ((Below.refl _ _).alloc (Nat.le_refl _) (.cells #[.slice af D.firm.length cf, .slice aw D.wait.length cw, .int .i64 A, .bool false] 28)))
    have HR2 := Lib.hid (HR1.out.bel ((Below.refl _ _).alloc (Nat.le_refl _) (.cells #[.slice af D.firm.length cf, .slice aw D.wait.length cw, .int .i64 A, .bool false] 28)))
    have HS2 := Lib.hid (show w1.heap.size < (w1.alloc (.cells #[.slice af D.firm.length cf, .slice aw D.wait.length cw, .int .i64 A, .bool false] 28)).heap.size by simp)
    have x0 : w1.cell? ⟨w.heap.size, 0, none⟩ = some (.slice af D.firm.length cf) := HF1.out.x.cell 0
    have x1 : w1.cell? ⟨w.heap.size, 1, none⟩ = some (.slice aw D.wait.length cw) := HF1.out.x.cell 1
    have x2 : w1.cell? ⟨w.heap.size, 2, none⟩ = some (.int .i64 D.armed) := HF1.out.x.cell 2
    have x3 : w1.cell? ⟨w.heap.size, 3, none⟩ = some (.bool false) := HF1.out.x.cell 3
    have lx := HF1.out.x.lt
    go_wp2_with fail
    generalize w1.alloc (.cells #[.slice af D.firm.length cf, .slice aw D.wait.length cw, .int .i64 A, .bool false] 28) = w2 at HX1 HF2 HR2 HS2 ⊢
    clear x0 x1 x2 x3 lx
    have C2 := Lib.hid (rfirm_any (cf := cf) (cw := cw) D.firm D.wait HR2.out.f HR2.out.w (fun x hx => by rw [HG.out.same]; exact HG.out.lies x hx) (by have := HG.out.same; have := HG.out.many; omega) HWL.out)
    refine C2.out.mono ?_
    rintro e w3 ⟨ar, cr, rfl, own3, bl3⟩
    have HF3 := Lib.hid (HF2.out.below bl3)
    have HX3 := Lib.hid (HX1.out.below bl3 HX1.out.lt)
    have HO3 := Lib.hid own3
    have HS3 := Lib.hid (show w2.heap.size ≤ w3.heap.size from bl3.size)
    clear own3 bl3 C2
    have e0 : w3.cell? ⟨w1.heap.size, 0, none⟩ = some (.slice af D.firm.length cf) := HX3.out.cell 0
    have e1 : w3.cell? ⟨w1.heap.size, 1, none⟩ = some (.slice aw D.wait.length cw) := HX3.out.cell 1
    have e2 : w3.cell? ⟨w1.heap.size, 2, none⟩ = some (.int .i64 A) := HX3.out.cell 2
    have e3 : w3.cell? ⟨w1.heap.size, 3, none⟩ = some (.bool false) := HX3.out.cell 3
    have ef0 := HX3.out.frozen 0
    have ef1 := HX3.out.frozen 1
    have z0 : w3.cell? ⟨w.heap.size + 1 + 1, 0, none⟩ = some (.slice none 0 0) := HF3.out.z.cell 0
    have z1 : w3.cell? ⟨w.heap.size + 1 + 1, 1, none⟩ = some (.slice none 0 0) := HF3.out.z.cell 1
    have z2 : w3.cell? ⟨w.heap.size + 1 + 1, 2, none⟩ = some (.int .i64 0) := HF3.out.z.cell 2
    have z3 : w3.cell? ⟨w.heap.size + 1 + 1, 3, none⟩ = some (.bool false) := HF3.out.z.cell 3
    have f0 := HF3.out.z.frozen 0
    have f1 := HF3.out.z.frozen 1
    have f2 := HF3.out.z.frozen 2
    have f3 := HF3.out.z.frozen 3
    have a0 : w3.cell? ⟨w.heap.size + 1 + 1 + 1, 0, none⟩ = some (.string ⟨#[]⟩) := HF3.out.a.cell 0
    have a1 : w3.cell? ⟨w.heap.size + 1 + 1 + 1, 1, none⟩ = some (.int .i64 0) := HF3.out.a.cell 1
    have b0 := HF3.out.a.frozen 0
    have b1 := HF3.out.a.frozen 1
    have l0 := HF3.out.z.lt
    have l1 := HF3.out.a.lt
    have hn1 : ¬ w1.heap.size = w.heap.size + 1 + 1 := by have := HS0.out; have := HS1.out; omega
    have hn2 : ¬ w1.heap.size = w.heap.size + 1 + 1 + 1 := by have := HS0.out; have := HS1.out; omega
    have hn3 : ¬ w.heap.size + 1 + 1 = w1.heap.size := fun e => hn1 e.symm
    have hn4 : ¬ w.heap.size + 1 + 1 + 1 = w1.heap.size := fun e => hn2 e.symm
    go_wp2
    rw [show r = ({ D with armed := A, dead := false, firm := laid D.firm D.wait, wait := [] }, [], 0) from HRR.out]
    have hcr : D.firm.length ≤ cr := by
      rcases HO3.out.2 with ⟨e, e2⟩ | ⟨g, cap', cur, e, _, _, h1, _⟩
      · omega
      · have e3 : cr = cap' := by injection e
        omega
    refine rdo_fin (w1 := (w3.setCell ⟨w1.heap.size, 0, none⟩ (.slice ar D.firm.length cr)).setCell ⟨w1.heap.size, 1, none⟩ (.slice none 0 0)) ((HF3.out.b.setCell (p := ⟨w1.heap.size, 0, none⟩) (by show w.heap.size ≤ w1.heap.size; have := HS0.out; have := HS1.out; omega) _).setCell (p := ⟨w1.heap.size, 1, none⟩) (by show w.heap.size ≤ w1.heap.size; have := HS0.out; have := HS1.out; omega) _)
      ((HF3.out.z.set_other (p := ⟨w1.heap.size, 0, none⟩) hn3 _).set_other (p := ⟨w1.heap.size, 1, none⟩) hn3 _) ((HF3.out.a.set_other (p := ⟨w1.heap.size, 0, none⟩) hn4 _).set_other (p := ⟨w1.heap.size, 1, none⟩) hn4 _) rfl rfl rfl fun w' hB hk hs => ⟨ar, none, cr, 0, ?_, ⟨?_, .inl rfl, ?_, Nat.le_refl _⟩, hB⟩
    · unfold rdv; simp only [laid_len]; rfl
    · have hO2 := own_stays HO3.out (w' := w') (fun i hi => by
        have h2 := own_ge HO3.out i hi
        have h3 := HS2.out
        have := HS0.out; have := HS1.out
        rw [hk i (by omega) (by omega)]
        exact (Below.heap_setCell _ _ _ _ (by show i ≠ w1.heap.size; omega)).trans (Below.heap_setCell _ _ _ _ (by show i ≠ w1.heap.size; omega)))
      exact SeeF.of_own hO2 (fun i _ h1 h2 => by have := HS0.out; have := HS1.out; have := HS2.out; omega)
    · show (laid D.firm D.wait).length ≤ cr
      rw [laid_len]; exact hcr

set_option maxHeartbeats 1000000 in
theorem rdo_1 {af aw ad : Option Addr} {cf cw cap : Nat} (o : Op4) (h : RAt w bad af aw cf cw D) (hg : Good D) (hwl : D.wait.length ≤ 1000000) (hm : o.b.length ≤ maxLen) (i : Nat) (hi : o.n = (i : Int)) (hkd : o.kd = 1) (hd : D.dead = false) (hlt : i < D.firm.length) : Calls Try.prog 24 #[rdv af aw cf cw D, ov o ad cap] w (Done w bad (stepA o D)) := by
  have hs : stepA o D = (D, lastAt D D.wait.length i, 0) := by unfold stepA; rw [if_neg (by omega), if_neg (by omega), if_neg (by omega), hd, if_neg (by decide), if_neg (by omega), if_neg (by omega), if_pos hkd, hi, Int.toNat_natCast]
  obtain ⟨r, hr⟩ : ∃ r, r = stepA o D := ⟨_, rfl⟩
  rw [← hr]
  have HRR := Lib.hid (hr.trans hs)
  obtain ⟨len, hlen⟩ : ∃ len, len = o.b.length := ⟨_, rfl⟩
  have hov : ov o ad cap = .agg #[.int .i64 1, .int .i64 (i : Int), .int .i64 o.tear, .slice ad len cap] := by rw [hlen, ← hkd, ← hi]; rfl
  rw [hov]
  unfold maxLen at hm
  have hrv : rdv af aw cf cw D = .agg #[.slice af D.firm.length cf, .slice aw D.wait.length cw, .int .i64 D.armed, .bool false] := by unfold rdv; rw [hd]
  rw [hrv]
  show Calls Try.prog 24 #[.agg #[.slice af D.firm.length cf, .slice aw D.wait.length cw, .int .i64 D.armed, .bool false], .agg #[.int .i64 1, .int .i64 (i : Int), .int .i64 o.tear, .slice ad len cap]] w _
  have HF := Lib.hid (Four.new w #[.slice af D.firm.length cf, .slice aw D.wait.length cw, .int .i64 D.armed, .bool false] #[.int .i64 1, .int .i64 (i : Int), .int .i64 o.tear, .slice ad len cap])
  have HH := Lib.hid h
  have HG := Lib.hid hg
  have HWL := Lib.hid hwl
  have hii : ¬ (D.firm.length : Int) ≤ (i : Int) := by omega
  obtain ⟨ans, hans⟩ : ∃ ans : ByteArray, ans = ⟨(lastAt D D.wait.length i).toArray⟩ := ⟨_, rfl⟩
  have HAN := Lib.hid hans
  have C1 := Lib.hid (fun (w0 : World) (hr : RAt w0 (fun i => bad i ∨ w.heap.size ≤ i) af aw cf cw D) => rread_any (w := w0) i hr hlt (by have := hg.same; have := hg.many; omega) hwl)
  unfold st at C1
  rw [← hans] at C1
  simp only [hrv] at C1
  have HDF := Lib.hid hd
  clear hkd hlen hm hd hi hans
  clear h hg hwl hs hov hr hrv
  go_enter Try.func24, Try.ntmps24
  go_wp2_with fail
  generalize ((((w.alloc (.cells #[.slice af D.firm.length cf, .slice aw D.wait.length cw, .int .i64 D.armed, .bool false] 28)).alloc (.cells #[.int .i64 1, .int .i64 (i : Int), .int .i64 o.tear, .slice ad len cap] 46)).alloc (.cells #[.slice none 0 0, .slice none 0 0, .int .i64 0, .bool false] 28)).alloc (.cells #[.string ⟨#[]⟩, .int .i64 0] 48)) = w0 at HF ⊢
  have HR0 := Lib.hid (HH.out.four HF.out)
  have HS0 := Lib.hid HF.out.s
  have HF0 : Four w w0.drew #[.slice af D.firm.length cf, .slice aw D.wait.length cw, .int .i64 D.armed, .bool false] #[.int .i64 1, .int .i64 (i : Int), .int .i64 o.tear, .slice ad len cap] := ⟨HF.out.x, HF.out.o, HF.out.z, HF.out.a, HF.out.b.drew, HF.out.s⟩
  refine wp_region_steps (fun w' => Box w' w.heap.size 28 #[.slice af D.firm.length cf, .slice aw D.wait.length cw, .int .i64 D.armed, .bool false] ∧ Box w' (w.heap.size + 1) 46 #[.int .i64 1, .int .i64 (i : Int), .int .i64 o.tear, .slice ad len cap]) [(true, 0), (true, 1), (true, 2), (true, 3), (false, 4), (true, 5), (false, 6), (false, 7)] 7 _ _ (by kernel_rfl) rfl (by kernel_rfl) (by kernel_rfl) rfl (fun _ _ _ _ _ h => h) ⟨HF0.x, HF0.o⟩ ?_
  intro S HS
  simp only [pickS, List.getElem?_cons_zero, List.getElem?_cons_succ]
  refine wpSteps_head ?_
  go_big_quiet_want; apply quiet_value; (· (intro w' hw; have hz := ((HS.out _).1 hw); have x0 : w'.cell? ⟨w.heap.size, 0, none⟩ = some (.slice af D.firm.length cf) := hz.1.cell 0; have x1 : w'.cell? ⟨w.heap.size, 1, none⟩ = some (.slice aw D.wait.length cw) := hz.1.cell 1; have x2 : w'.cell? ⟨w.heap.size, 2, none⟩ = some (.int .i64 D.armed) := hz.1.cell 2; have x3 : w'.cell? ⟨w.heap.size, 3, none⟩ = some (.bool false) := hz.1.cell 3; have o1 : w'.cell? ⟨w.heap.size + 1, 1, none⟩ = some (.int .i64 (i : Int)) := hz.2.cell 1; go_simp; try rfl)); simp only [Act.put, List.setIfInBounds_toArray, List.set_cons_succ, List.set_cons_zero]; go_big_quiet_on
  refine wpQuiet_nil ?_
  refine wpSteps_head ?_
  go_big_quiet_want; apply quiet_value; (· (intro w' hw; have hz := ((HS.out _).1 hw); have x0 : w'.cell? ⟨w.heap.size, 0, none⟩ = some (.slice af D.firm.length cf) := hz.1.cell 0; have x1 : w'.cell? ⟨w.heap.size, 1, none⟩ = some (.slice aw D.wait.length cw) := hz.1.cell 1; have x2 : w'.cell? ⟨w.heap.size, 2, none⟩ = some (.int .i64 D.armed) := hz.1.cell 2; have x3 : w'.cell? ⟨w.heap.size, 3, none⟩ = some (.bool false) := hz.1.cell 3; have o1 : w'.cell? ⟨w.heap.size + 1, 1, none⟩ = some (.int .i64 (i : Int)) := hz.2.cell 1; go_simp; try rfl)); simp only [Act.put, List.setIfInBounds_toArray, List.set_cons_succ, List.set_cons_zero]; go_big_quiet_on
  refine wpQuiet_nil ?_
  refine wpSteps_head ?_
  go_big_quiet_want; apply quiet_value; (· (intro w' hw; have hz := ((HS.out _).1 hw); have x0 : w'.cell? ⟨w.heap.size, 0, none⟩ = some (.slice af D.firm.length cf) := hz.1.cell 0; have x1 : w'.cell? ⟨w.heap.size, 1, none⟩ = some (.slice aw D.wait.length cw) := hz.1.cell 1; have x2 : w'.cell? ⟨w.heap.size, 2, none⟩ = some (.int .i64 D.armed) := hz.1.cell 2; have x3 : w'.cell? ⟨w.heap.size, 3, none⟩ = some (.bool false) := hz.1.cell 3; have o1 : w'.cell? ⟨w.heap.size + 1, 1, none⟩ = some (.int .i64 (i : Int)) := hz.2.cell 1; go_simp; try rfl)); simp only [Act.put, List.setIfInBounds_toArray, List.set_cons_succ, List.set_cons_zero]; go_big_quiet_on
  refine wpQuiet_nil ?_
  refine wpSteps_head ?_
  go_big_quiet_want; apply quiet_value; (· (intro w' hw; have hz := ((HS.out _).1 hw); have x0 : w'.cell? ⟨w.heap.size, 0, none⟩ = some (.slice af D.firm.length cf) := hz.1.cell 0; have x1 : w'.cell? ⟨w.heap.size, 1, none⟩ = some (.slice aw D.wait.length cw) := hz.1.cell 1; have x2 : w'.cell? ⟨w.heap.size, 2, none⟩ = some (.int .i64 D.armed) := hz.1.cell 2; have x3 : w'.cell? ⟨w.heap.size, 3, none⟩ = some (.bool false) := hz.1.cell 3; have o1 : w'.cell? ⟨w.heap.size + 1, 1, none⟩ = some (.int .i64 (i : Int)) := hz.2.cell 1; go_simp; try rfl)); simp only [Act.put, List.setIfInBounds_toArray, List.set_cons_succ, List.set_cons_zero]; go_big_quiet_on
  refine wpQuiet_nil ?_
  refine wpSteps_more ?_
  go_wp2_with fail
  refine (C1.out w0.drew (HR0.out.stays (Nat.le_refl _) (fun _ _ _ => rfl))).mono ?_
  rintro e w1 ⟨rfl, bl1⟩
  have HF1 := Lib.hid (HF0.below bl1)
  have HR1 := Lib.hid ((HR0.out.stays (w' := w0.drew) (Nat.le_refl _) (fun _ _ _ => rfl)).bel bl1)
  clear bl1 C1
  go_wp2_with fail
  refine ThenS.mk ((HS.out _).2 ⟨HF1.out.x, HF1.out.o⟩) ?_
  refine wpSteps_head ?_
  go_big_quiet_want; apply quiet_value; (· (intro w' hw; go_simp; try rfl)); simp only [Act.put, List.setIfInBounds_toArray, List.set_cons_succ, List.set_cons_zero]; go_big_quiet_on
  refine wpQuiet_nil ?_
  refine wpSteps_more ?_
  have z0 : w1.cell? ⟨w.heap.size + 1 + 1, 0, none⟩ = some (.slice none 0 0) := HF1.out.z.cell 0
  have z1 : w1.cell? ⟨w.heap.size + 1 + 1, 1, none⟩ = some (.slice none 0 0) := HF1.out.z.cell 1
  have z2 : w1.cell? ⟨w.heap.size + 1 + 1, 2, none⟩ = some (.int .i64 0) := HF1.out.z.cell 2
  have z3 : w1.cell? ⟨w.heap.size + 1 + 1, 3, none⟩ = some (.bool false) := HF1.out.z.cell 3
  have f0 := HF1.out.z.frozen 0
  have f1 := HF1.out.z.frozen 1
  have f2 := HF1.out.z.frozen 2
  have f3 := HF1.out.z.frozen 3
  have a0 : w1.cell? ⟨w.heap.size + 1 + 1 + 1, 0, none⟩ = some (.string ⟨#[]⟩) := HF1.out.a.cell 0
  have a1 : w1.cell? ⟨w.heap.size + 1 + 1 + 1, 1, none⟩ = some (.int .i64 0) := HF1.out.a.cell 1
  have b0 := HF1.out.a.frozen 0
  have b1 := HF1.out.a.frozen 1
  have l0 := HF1.out.z.lt
  have l1 := HF1.out.a.lt
  go_wp2_with fail
  have n1 : w.heap.size ≠ w.heap.size + 1 + 1 := by omega
  have n2 : w.heap.size + 1 ≠ w.heap.size + 1 + 1 := by omega
  refine ThenS.mk ((HS.out _).2 ⟨((((HF1.out.x.set_other (p := ⟨w.heap.size + 1 + 1, 0, none⟩) n1 _).set_other (p := ⟨w.heap.size + 1 + 1, 1, none⟩) n1 _).set_other (p := ⟨w.heap.size + 1 + 1, 2, none⟩) n1 _).set_other (p := ⟨w.heap.size + 1 + 1, 3, none⟩) n1 _), ((((HF1.out.o.set_other (p := ⟨w.heap.size + 1 + 1, 0, none⟩) n2 _).set_other (p := ⟨w.heap.size + 1 + 1, 1, none⟩) n2 _).set_other (p := ⟨w.heap.size + 1 + 1, 2, none⟩) n2 _).set_other (p := ⟨w.heap.size + 1 + 1, 3, none⟩) n2 _)⟩) ?_
  refine wpSteps_last ?_
  go_wp2
  rw [HRR.out]
  refine rdo_fin HF1.out.b HF1.out.z HF1.out.a rfl rfl rfl fun w' hB hk hs => ⟨af, aw, cf, cw, ?_, ?_, hB⟩
  · unfold rdv st; rw [HAN.out, HDF.out]
  · exact (HR1.out.stays hs (fun k _ hb => hk k (fun e => hb (.inr (by omega))) (fun e => hb (.inr (by omega))))).mono (bad' := fun i => bad i ∧ i < w.heap.size) (fun k _ h => .inl h.1)

set_option maxHeartbeats 1000000 in
theorem rdo_0 {af aw ad : Option Addr} {cf cw cap : Nat} (o : Op4) (h : RAt w bad af aw cf cw D) (hg : Good D) (hwl : D.wait.length ≤ 1000000) (hm : o.b.length ≤ maxLen) (i : Nat) (hi : o.n = (i : Int)) (hkd : o.kd = 0) (hd : D.dead = false) (hlt : i < D.firm.length) (h64 : o.b.length ≤ 64) (hB : Bys w ad o.b.length o.b) : Calls Try.prog 24 #[rdv af aw cf cw D, ov o ad cap] w (Done w bad (stepA o D)) := by
  have hs : stepA o D = (diesD (putD D i (pad o.b)), [], if diesB D then 40 else 0) := by unfold stepA; rw [if_neg (by omega), if_neg (by omega), if_neg (by omega), hd, if_neg (by decide), if_neg (by omega), if_neg (by omega), if_neg (by omega), hi, Int.toNat_natCast]
  obtain ⟨r, hr⟩ : ∃ r, r = stepA o D := ⟨_, rfl⟩
  rw [← hr]
  have HRR := Lib.hid (hr.trans hs)
  obtain ⟨len, hlen⟩ : ∃ len, len = o.b.length := ⟨_, rfl⟩
  have hov : ov o ad cap = .agg #[.int .i64 0, .int .i64 (i : Int), .int .i64 o.tear, .slice ad len cap] := by rw [hlen, ← hkd, ← hi]; rfl
  rw [hov]
  unfold maxLen at hm
  have hrv : rdv af aw cf cw D = .agg #[.slice af D.firm.length cf, .slice aw D.wait.length cw, .int .i64 D.armed, .bool false] := by unfold rdv; rw [hd]
  rw [hrv]
  show Calls Try.prog 24 #[.agg #[.slice af D.firm.length cf, .slice aw D.wait.length cw, .int .i64 D.armed, .bool false], .agg #[.int .i64 0, .int .i64 (i : Int), .int .i64 o.tear, .slice ad len cap]] w _
  have HF := Lib.hid (Four.new w #[.slice af D.firm.length cf, .slice aw D.wait.length cw, .int .i64 D.armed, .bool false] #[.int .i64 0, .int .i64 (i : Int), .int .i64 o.tear, .slice ad len cap])
  have HH := Lib.hid h
  have HG := Lib.hid hg
  have HWL := Lib.hid hwl
  have hii : ¬ (D.firm.length : Int) ≤ (i : Int) := by omega
  have HB := Lib.hid (show Bys w ad len o.b by rw [hlen]; exact hB)
  have H64 := Lib.hid h64
  obtain ⟨D1, hD1⟩ : ∃ D1, D1 = putD D i (pad o.b) := ⟨_, rfl⟩
  have hd1 : D1.dead = false := by rw [hD1]; exact hd
  have hf1 : D1.firm.length = D.firm.length := by rw [hD1]; rfl
  have hb1 : diesB D1 = diesB D := by rw [hD1]; rfl
  have ha1 : 0 ≤ D1.armed ∧ D1.armed ≤ 9223372036854775807 := by rw [hD1]; exact hg.arm
  have haa1 : D1.armed = D.armed := by rw [hD1]; rfl
  obtain ⟨A, hA⟩ := dies_form D1 hd1
  obtain ⟨q, hq⟩ : ∃ q, q = diesB D := ⟨_, rfl⟩
  have HRR2 : Hid (r = ({ D1 with armed := A, dead := q }, [], if q then 40 else 0)) := by have h0 := HRR.out; rw [← hD1, hA, hb1, ← hq] at h0; exact h0
  have HD1 := Lib.hid hD1
  have HF1D := Lib.hid hf1
  have C1 := Lib.hid (fun (w0 : World) (hr : RAt w0 (fun i => bad i ∨ w.heap.size ≤ i) af aw cf cw D) (hb : Bys w0 ad o.b.length o.b) => rput_any (w := w0) i o.b ad o.b.length cap hr hb h64 hwl)
  rw [← hlen] at C1
  simp only [hrv, ← hD1] at C1
  have C2 := Lib.hid (fun (w0 : World) (af aw : Option Addr) (cf cw : Nat) => rdies_any (w := w0) (af := af) (aw := aw) (cf := cf) (cw := cw) (D := D1) ha1)
  simp only [hA, hb1, ← hq] at C2
  unfold rdv at C1 C2
  simp only [hf1, hd1, haa1] at C1 C2
  have h64' : ¬ (64 : Int) < (len : Int) := by omega
  clear hkd hlen hm hd hi h64 hB hD1 hd1 hf1 hb1 ha1 haa1 hA hq HRR
  clear h hg hwl hs hov hr hrv
  go_enter Try.func24, Try.ntmps24
  go_wp2_with fail
  generalize ((((w.alloc (.cells #[.slice af D.firm.length cf, .slice aw D.wait.length cw, .int .i64 D.armed, .bool false] 28)).alloc (.cells #[.int .i64 0, .int .i64 (i : Int), .int .i64 o.tear, .slice ad len cap] 46)).alloc (.cells #[.slice none 0 0, .slice none 0 0, .int .i64 0, .bool false] 28)).alloc (.cells #[.string ⟨#[]⟩, .int .i64 0] 48)) = w0 at HF ⊢
  have HR0 := Lib.hid (HH.out.four HF.out)
  have HS0 := Lib.hid HF.out.s
  refine (C1.out w0 HR0.out (HB.out.bel HF.out.b)).mono ?_
  rintro e w1 ⟨ar, cr, rfl, hr1, bl1⟩
  have HF1 := Lib.hid (HF.out.below bl1)
  have HR1 := Lib.hid hr1
  have HS1 := Lib.hid (show w0.heap.size ≤ w1.heap.size from bl1.size)
  clear bl1 C1 hr1
  go_wp2_with fail
  refine (C2.out w1 af ar cf cr).mono ?_
  rintro e w2 ⟨rfl, bl2⟩
  have HF2 := Lib.hid (HF1.out.below bl2)
  have HR2 := Lib.hid (HR1.out.bel bl2)
  have HS2 := Lib.hid (show w1.heap.size ≤ w2.heap.size from bl2.size)
  clear bl2 C2
  have z0 : w2.cell? ⟨w.heap.size + 1 + 1, 0, none⟩ = some (.slice none 0 0) := HF2.out.z.cell 0
  have z1 : w2.cell? ⟨w.heap.size + 1 + 1, 1, none⟩ = some (.slice none 0 0) := HF2.out.z.cell 1
  have z2 : w2.cell? ⟨w.heap.size + 1 + 1, 2, none⟩ = some (.int .i64 0) := HF2.out.z.cell 2
  have z3 : w2.cell? ⟨w.heap.size + 1 + 1, 3, none⟩ = some (.bool false) := HF2.out.z.cell 3
  have f0 := HF2.out.z.frozen 0
  have f1 := HF2.out.z.frozen 1
  have f2 := HF2.out.z.frozen 2
  have f3 := HF2.out.z.frozen 3
  have a0 : w2.cell? ⟨w.heap.size + 1 + 1 + 1, 0, none⟩ = some (.string ⟨#[]⟩) := HF2.out.a.cell 0
  have a1 : w2.cell? ⟨w.heap.size + 1 + 1 + 1, 1, none⟩ = some (.int .i64 0) := HF2.out.a.cell 1
  have b0 := HF2.out.a.frozen 0
  have b1 := HF2.out.a.frozen 1
  have l0 := HF2.out.z.lt
  have l1 := HF2.out.a.lt
  have lx := HF2.out.x.lt
  cases q <;>
  · go_wp2
    rw [show r = _ from HRR2.out]
    refine rdo_finA HF2.out.b HF2.out.z HF2.out.a rfl rfl rfl fun w' hB hk hs => ⟨af, ar, cf, cr, (by unfold rdv; simp only [HF1D.out]; rfl), ?_, hB⟩
    exact RAt.mono (bad := fun i => (bad i ∨ w.heap.size ≤ i) ∧ i < w0.heap.size) (RAt.same (HR2.out.stays hs (fun k h0 hb => hk k h0 (fun e => hb ⟨.inr (by omega), by have := HS0.out; omega⟩) (fun e => hb ⟨.inr (by omega), by have := HS0.out; omega⟩))) rfl rfl) (fun k _ h => ⟨.inl h.1, by have := HS0.out; omega⟩)
/-- the document's Do. -/
theorem rdo_any {af aw ad : Option Addr} {cf cw cap : Nat} (o : Op4) (h : RAt w bad af aw cf cw D) (hg : Good D) (hwl : D.wait.length ≤ 1000000) (hB : Bys w ad o.b.length o.b) : Calls Try.prog 24 #[rdv af aw cf cw D, ov o ad cap] w (Done w bad (stepA o D)) := by
  have hm := hB.2.1
  by_cases h3 : o.kd = 3
  · exact rdo_3 o h hm h3
  by_cases h4 : o.kd = 4
  · exact rdo_4 o h hg hwl hm h4
  by_cases hx : o.kd < 0 ∨ 4 < o.kd
  · exact rdo_x o h hm h3 h4 hx
  cases hd : D.dead with
  | true => exact rdo_d o h hm h3 h4 hx hd
  | false =>
    by_cases h2 : o.kd = 2
    · exact rdo_2 o h hg hwl hm h2 hd
    by_cases hb : o.n < 0 ∨ (D.firm.length : Int) ≤ o.n ∨ (o.kd = 0 ∧ 64 < o.b.length)
    · exact rdo_41 o h hm h3 h4 hx hd h2 hb
    obtain ⟨i, hi⟩ := Int.eq_ofNat_of_zero_le (show 0 ≤ o.n by omega)
    by_cases h1 : o.kd = 1
    · exact rdo_1 o h hg hwl hm i hi h1 hd (by omega)
    · exact rdo_0 o h hg hwl hm i hi (by omega) hd (by omega) (by omega) hB
end Go.Proofs.Ytpgoacemjpobjaa
