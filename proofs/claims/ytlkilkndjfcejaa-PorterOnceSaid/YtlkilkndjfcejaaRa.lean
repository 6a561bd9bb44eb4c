/- porter: the document's client as it lies in memory; its ask. Conditions: its rows lie in memory. -/
import Derived.Test.YtlkilkndjfcejaaPq
namespace Go.Proofs.Ytlkilkndjfcejaa
open Go Go.RowKit
set_option linter.unusedVariables false
set_option linter.unusedSimpArgs false
variable {w w' : World} {s s' : St}

structure Vr where
  m : Value
  g : Value
  o : Value
abbrev rcs (s : St) (V : Vr) (ph : Int) (z : Rs) : Array Value := #[.int .i64 s.cl, .int .i64 s.pa, V.m, V.g, .int .i64 s.nu, .int .i64 (ph), .int .i64 (s.vol : Nat), .int .i64 s.c.cl, .int .i64 s.c.nu, .int .i64 s.c.kd, .int .i64 s.c.h1, .int .i64 s.c.h2, .int .i64 s.c.g1, .int .i64 s.c.g2, .string s.c.nm, .string s.c.ot, .int .i64 s.c.m1, .int .i64 s.c.m2, .int .i64 s.c.m3, .string s.c.mt, .bool s.c.fo, .int .i64 s.c.aa, .int .i64 s.c.nn, .int .i64 s.c.tt, .string s.c.bb, .int .i64 s.wait, .int .i64 s.vain, V.o, .int .i64 z.nu, .int .i64 z.co, .int .i64 z.a.co, .int .i64 z.a.h1, .int .i64 z.a.h2, .string z.a.b, .int .i64 z.a.i1, .int .i64 z.a.i2, .int .i64 z.a.i3, .int .i64 z.a.i4, .int .i64 z.a.i5, .int .i64 z.a.i6, .int .i64 z.a.i7, .int .i64 z.a.i8, .slice z.a.na z.a.nl z.a.nc]
/-- its phase: 0 nothing is under way, 1 a call is, 2 a result waits. -/
def phS (s : St) : Int := if s.busy then 1 else if s.done.isEmpty then 0 else 2
/-- its rows. -/
structure Rt (w : World) (V : Vr) (s : St) : Prop where
  rm : ∃ a len cap, V.m = .slice a len cap ∧ Ints .i64 w a len s.many
  rg : w.ownsRow 0 3 1 V.g s.guess.length (s.guess.map iv)
  ro : w.ownsRow 0 106 20 V.o s.out.length (s.out.flatMap ql)
variable {V V' : Vr}
theorem Rt.below (h : Rt w V s) (hb : Below w.heap.size w w') : Rt w' V s :=
  ⟨by obtain ⟨a, len, cap, e, hi⟩ := h.rm; exact ⟨a, len, cap, e, hi.below hb⟩, own_stays h.rg fun k hk => hb.block k (own_lt h.rg k hk), own_stays h.ro fun k hk => hb.block k (own_lt h.ro k hk)⟩
/-- what a call of the document's leaves. -/
structure RTo (w w' : World) (V V' : Vr) : Prop where
  below : Below w.heap.size w w'
  m : V'.m = V.m
  g : ∀ k, V'.g.ownBlock = some k → V.g.ownBlock = some k ∨ w.heap.size ≤ k
  o : ∀ k, V'.o.ownBlock = some k → V.o.ownBlock = some k ∨ w.heap.size ≤ k
theorem RTo.same (h : Below w.heap.size w w') : RTo w w' V V := ⟨h, rfl, fun _ h => .inl h, fun _ h => .inl h⟩
theorem RTo.trans {w'' : World} {V'' : Vr} (h : RTo w w' V V') (k : RTo w' w'' V' V'') : RTo w w'' V V'' := by
  refine ⟨h.below.trans (k.below.mono h.below.size), k.m.trans h.m, fun b hb => ?_, fun b hb => ?_⟩
  · rcases k.g b hb with h1 | h1
    · exact h.g b h1
    · exact .inr (Nat.le_trans h.below.size h1)
  · rcases k.o b hb with h1 | h1
    · exact h.o b h1
    · exact .inr (Nat.le_trans h.below.size h1)
/-- a call of the document's that hands back a client. -/
def Gives (w : World) (V : Vr) (s' : St) (ph : Int) (e : Ending) (w' : World) : Prop := ∃ V' z, e = .returned (.agg (rcs s' V' ph z)) ∧ (∀ r, s'.done = [r] → z = r) ∧ Rt w' V' s' ∧ RTo w w' V V'
theorem row106 : (Try.prog.info? 106).map (fun i => (i.zero, i.size, i.bytes)) = some (some (.agg #[.int .i64 0, .int .i64 0, .int .i64 0, .int .i64 0, .int .i64 0, .int .i64 0, .int .i64 0, .int .i64 0, .int .i64 0, .string ⟨#[]⟩, .string ⟨#[]⟩, .int .i64 0, .int .i64 0, .int .i64 0, .string ⟨#[]⟩, .bool false, .int .i64 0, .int .i64 0, .int .i64 0, .string ⟨#[]⟩]), 20, 192) := by kernel_rfl
theorem box1 (w : World) (A : Array Value) (T T' : TypeId) (B : Array Value) : Box ((w.alloc (.cells A T)).alloc (.cells B T')) w.heap.size T A := (Box.new w T A).alloc _
theorem box2 (w : World) (o : Obj) (B : Array Value) (T : TypeId) : Box ((w.alloc o).alloc (.cells B T)) (w.heap.size + 1) T B := by
  have := Box.new (w.alloc o) T B; rwa [World.size_alloc] at this
theorem rq_src106 {w : World} {xb c : Nat} (r : Rq) (hx : Box w xb 106 (qc r)) : Src w (some ⟨xb, 0, none⟩) 1 20 (ql r) := by
  refine ⟨rfl, by simp [ql, Value.oneCell'], .inr ⟨_, rfl, fun j u hj => ?_⟩⟩
  rw [Addr.add_lit, Nat.zero_add, hx.cell j, ← Array.getElem?_toList]
  exact hj
set_option maxRecDepth 100000 in
set_option maxHeartbeats 8000000 in
theorem rask_any (z : Rs) (ph : Int) (h : Rt w V s) (hf : Fit s) (hl : s.out.length ≤ 500) : Calls Try.prog 29 #[.agg (rcs s V ph z)] w fun e w' => ∃ V', e = .returned (.agg (rcs (askS s) V' ph z)) ∧ Rt w' V' (askS s) ∧ RTo w w' V V' := by
  obtain ⟨Vm, Vg, Vo⟩ := V
  obtain ⟨am, lm, cm, hvm, _⟩ := h.rm
  have hvm2 : Vm = .slice am lm cm := hvm
  subst hvm2
  clear hvm
  have hro : w.ownsRow 0 106 20 Vo s.out.length (s.out.flatMap ql) := h.ro
  have hrg : w.ownsRow 0 3 1 Vg s.guess.length (s.guess.map iv) := h.rg
  obtain ⟨g, cg, rfl, _, hgl, hvl, _, hgc, _⟩ := own_at1 hrg s.vol (gv s) hf.gat
  obtain ⟨x, hx⟩ : ∃ x, x = gv s := ⟨_, rfl⟩
  rw [← hx] at hgc
  obtain ⟨ao, co, rfl, _⟩ := own_shape hro
  obtain ⟨W2, hW2⟩ : ∃ W2, W2 = (w.alloc (.cells #[.int .i64 s.cl, .int .i64 s.pa, .slice am lm cm, .slice (some ⟨g, 0, none⟩) s.guess.length cg, .int .i64 s.nu, .int .i64 (ph), .int .i64 (s.vol : Nat), .int .i64 s.c.cl, .int .i64 s.c.nu, .int .i64 s.c.kd, .int .i64 s.c.h1, .int .i64 s.c.h2, .int .i64 s.c.g1, .int .i64 s.c.g2, .string s.c.nm, .string s.c.ot, .int .i64 s.c.m1, .int .i64 s.c.m2, .int .i64 s.c.m3, .string s.c.mt, .bool s.c.fo, .int .i64 s.c.aa, .int .i64 s.c.nn, .int .i64 s.c.tt, .string s.c.bb, .int .i64 0, .int .i64 s.vain, .slice ao s.out.length co, .int .i64 z.nu, .int .i64 z.co, .int .i64 z.a.co, .int .i64 z.a.h1, .int .i64 z.a.h2, .string z.a.b, .int .i64 z.a.i1, .int .i64 z.a.i2, .int .i64 z.a.i3, .int .i64 z.a.i4, .int .i64 z.a.i5, .int .i64 z.a.i6, .int .i64 z.a.i7, .int .i64 z.a.i8, .slice z.a.na z.a.nl z.a.nc] 46)).alloc (.cells #[.int .i64 0, .int .i64 0, .slice none 0 0, .slice none 0 0, .int .i64 0, .int .i64 0, .int .i64 0, .int .i64 0, .int .i64 0, .int .i64 0, .int .i64 0, .int .i64 0, .int .i64 0, .int .i64 0, .string ⟨#[]⟩, .string ⟨#[]⟩, .int .i64 0, .int .i64 0, .int .i64 0, .string ⟨#[]⟩, .bool false, .int .i64 0, .int .i64 0, .int .i64 0, .string ⟨#[]⟩, .int .i64 0, .int .i64 0, .slice none 0 0, .int .i64 0, .int .i64 0, .int .i64 0, .int .i64 0, .int .i64 0, .string ⟨#[]⟩, .int .i64 0, .int .i64 0, .int .i64 0, .int .i64 0, .int .i64 0, .int .i64 0, .int .i64 0, .int .i64 0, .slice none 0 0] 46) := ⟨_, rfl⟩
  have HA := box1 w #[.int .i64 s.cl, .int .i64 s.pa, .slice am lm cm, .slice (some ⟨g, 0, none⟩) s.guess.length cg, .int .i64 s.nu, .int .i64 (ph), .int .i64 (s.vol : Nat), .int .i64 s.c.cl, .int .i64 s.c.nu, .int .i64 s.c.kd, .int .i64 s.c.h1, .int .i64 s.c.h2, .int .i64 s.c.g1, .int .i64 s.c.g2, .string s.c.nm, .string s.c.ot, .int .i64 s.c.m1, .int .i64 s.c.m2, .int .i64 s.c.m3, .string s.c.mt, .bool s.c.fo, .int .i64 s.c.aa, .int .i64 s.c.nn, .int .i64 s.c.tt, .string s.c.bb, .int .i64 0, .int .i64 s.vain, .slice ao s.out.length co, .int .i64 z.nu, .int .i64 z.co, .int .i64 z.a.co, .int .i64 z.a.h1, .int .i64 z.a.h2, .string z.a.b, .int .i64 z.a.i1, .int .i64 z.a.i2, .int .i64 z.a.i3, .int .i64 z.a.i4, .int .i64 z.a.i5, .int .i64 z.a.i6, .int .i64 z.a.i7, .int .i64 z.a.i8, .slice z.a.na z.a.nl z.a.nc] 46 46 #[.int .i64 0, .int .i64 0, .slice none 0 0, .slice none 0 0, .int .i64 0, .int .i64 0, .int .i64 0, .int .i64 0, .int .i64 0, .int .i64 0, .int .i64 0, .int .i64 0, .int .i64 0, .int .i64 0, .string ⟨#[]⟩, .string ⟨#[]⟩, .int .i64 0, .int .i64 0, .int .i64 0, .string ⟨#[]⟩, .bool false, .int .i64 0, .int .i64 0, .int .i64 0, .string ⟨#[]⟩, .int .i64 0, .int .i64 0, .slice none 0 0, .int .i64 0, .int .i64 0, .int .i64 0, .int .i64 0, .int .i64 0, .string ⟨#[]⟩, .int .i64 0, .int .i64 0, .int .i64 0, .int .i64 0, .int .i64 0, .int .i64 0, .int .i64 0, .int .i64 0, .slice none 0 0]
  have HZ := box2 w (.cells #[.int .i64 s.cl, .int .i64 s.pa, .slice am lm cm, .slice (some ⟨g, 0, none⟩) s.guess.length cg, .int .i64 s.nu, .int .i64 (ph), .int .i64 (s.vol : Nat), .int .i64 s.c.cl, .int .i64 s.c.nu, .int .i64 s.c.kd, .int .i64 s.c.h1, .int .i64 s.c.h2, .int .i64 s.c.g1, .int .i64 s.c.g2, .string s.c.nm, .string s.c.ot, .int .i64 s.c.m1, .int .i64 s.c.m2, .int .i64 s.c.m3, .string s.c.mt, .bool s.c.fo, .int .i64 s.c.aa, .int .i64 s.c.nn, .int .i64 s.c.tt, .string s.c.bb, .int .i64 0, .int .i64 s.vain, .slice ao s.out.length co, .int .i64 z.nu, .int .i64 z.co, .int .i64 z.a.co, .int .i64 z.a.h1, .int .i64 z.a.h2, .string z.a.b, .int .i64 z.a.i1, .int .i64 z.a.i2, .int .i64 z.a.i3, .int .i64 z.a.i4, .int .i64 z.a.i5, .int .i64 z.a.i6, .int .i64 z.a.i7, .int .i64 z.a.i8, .slice z.a.na z.a.nl z.a.nc] 46) #[.int .i64 0, .int .i64 0, .slice none 0 0, .slice none 0 0, .int .i64 0, .int .i64 0, .int .i64 0, .int .i64 0, .int .i64 0, .int .i64 0, .int .i64 0, .int .i64 0, .int .i64 0, .int .i64 0, .string ⟨#[]⟩, .string ⟨#[]⟩, .int .i64 0, .int .i64 0, .int .i64 0, .string ⟨#[]⟩, .bool false, .int .i64 0, .int .i64 0, .int .i64 0, .string ⟨#[]⟩, .int .i64 0, .int .i64 0, .slice none 0 0, .int .i64 0, .int .i64 0, .int .i64 0, .int .i64 0, .int .i64 0, .string ⟨#[]⟩, .int .i64 0, .int .i64 0, .int .i64 0, .int .i64 0, .int .i64 0, .int .i64 0, .int .i64 0, .int .i64 0, .slice none 0 0] 46
  have B0 := (((Below.refl w.heap.size w).alloc (Nat.le_refl _) (.cells #[.int .i64 s.cl, .int .i64 s.pa, .slice am lm cm, .slice (some ⟨g, 0, none⟩) s.guess.length cg, .int .i64 s.nu, .int .i64 (ph), .int .i64 (s.vol : Nat), .int .i64 s.c.cl, .int .i64 s.c.nu, .int .i64 s.c.kd, .int .i64 s.c.h1, .int .i64 s.c.h2, .int .i64 s.c.g1, .int .i64 s.c.g2, .string s.c.nm, .string s.c.ot, .int .i64 s.c.m1, .int .i64 s.c.m2, .int .i64 s.c.m3, .string s.c.mt, .bool s.c.fo, .int .i64 s.c.aa, .int .i64 s.c.nn, .int .i64 s.c.tt, .string s.c.bb, .int .i64 0, .int .i64 s.vain, .slice ao s.out.length co, .int .i64 z.nu, .int .i64 z.co, .int .i64 z.a.co, .int .i64 z.a.h1, .int .i64 z.a.h2, .string z.a.b, .int .i64 z.a.i1, .int .i64 z.a.i2, .int .i64 z.a.i3, .int .i64 z.a.i4, .int .i64 z.a.i5, .int .i64 z.a.i6, .int .i64 z.a.i7, .int .i64 z.a.i8, .slice z.a.na z.a.nl z.a.nc] 46)).alloc (by simp) (.cells #[.int .i64 0, .int .i64 0, .slice none 0 0, .slice none 0 0, .int .i64 0, .int .i64 0, .int .i64 0, .int .i64 0, .int .i64 0, .int .i64 0, .int .i64 0, .int .i64 0, .int .i64 0, .int .i64 0, .string ⟨#[]⟩, .string ⟨#[]⟩, .int .i64 0, .int .i64 0, .int .i64 0, .string ⟨#[]⟩, .bool false, .int .i64 0, .int .i64 0, .int .i64 0, .string ⟨#[]⟩, .int .i64 0, .int .i64 0, .slice none 0 0, .int .i64 0, .int .i64 0, .int .i64 0, .int .i64 0, .int .i64 0, .string ⟨#[]⟩, .int .i64 0, .int .i64 0, .int .i64 0, .int .i64 0, .int .i64 0, .int .i64 0, .int .i64 0, .int .i64 0, .slice none 0 0] 46))
  rw [← hW2] at HA HZ B0
  have hs2 : W2.heap.size = w.heap.size + 1 + 1 := by rw [hW2]; simp
  have HA := Lib.hid (HA.alloc (.cells #[] 106))
  have HZ := Lib.hid (HZ.alloc (.cells #[] 106))
  have hB1 := B0.alloc B0.size (.cells #[] 106)
  have B1 := Lib.hid hB1
  have HO := World.ownsRow_lit (base := w.heap.size) (e := 106) (size := 20) W2 #[] 0 B0.size (by decide) rfl
  rw [hs2] at HO
  have HO := Lib.hid HO
  have HSRC := Lib.hid (own_src (own_stays hro (w' := W2.alloc (.cells #[] 106)) fun k hk => hB1.block k (own_lt hro k hk)) (ql_one _))
  have HSZ := Lib.hid (show w.heap.size ≤ (W2.alloc (.cells #[] 106)).heap.size by rw [World.size_alloc]; omega)
  have HR := Lib.hid h
  have HXX := Lib.hid hx
  have HW2 := Lib.hid hW2
  obtain ⟨i0, hi, hz0, hz1, hz2⟩ := info_parts row106
  have HI := Lib.hid hi
  have HZZ := Lib.hid hz0
  clear h hx hro hrg hW2 hi hz0 B0 hB1
  go_enter Try.func29, Try.ntmps29
  go_wp2_with (at_builtin; rw [← HW2.out]; refine wpList_append_at rfl (.tmp 5) (.tmp 7) 37 rfl w.heap.size 106 i0 _ 20 192 Try.underlying37 HI.out HZZ.out hz1 hz2 rfl (by decide) _ _ _ rfl HO.out _ _ _ _ rfl HSRC.out ?c2 ?c3 HSZ.out ?_)
  case c2 => unfold maxLen; omega
  case c3 => omega
  intro v6 w6 own6 g6 at6
  obtain ⟨ad6, c6, rfl, _⟩ := own_shape own6
  have HRO6 := Lib.hid own6
  have HA6 := Lib.hid (HA.out.grown g6 (by show some w.heap.size ≠ some (w.heap.size + 1 + 1); simp; omega))
  have HZ6 := Lib.hid (HZ.out.grown g6 (by show some (w.heap.size + 1) ≠ some (w.heap.size + 1 + 1); simp))
  have HB6 := Lib.hid (B1.out.grown g6 HSZ.out (own_ge HO.out))
  have HGC := Lib.hid hgc
  have hgc6 : w6.cell? ⟨g, s.vol, none⟩ = some (.int .i64 x) := (HB6.out.cell (p := ⟨g, s.vol, none⟩) hgl).trans hgc
  clear own6 g6 at6 HA HZ B1 HO HSRC HSZ HI HZZ hgc
  go_wp2_with fail
  have hal := HA6.out.lt
  refine wp_region_steps (fun w' => Box w' w.heap.size 46 #[.int .i64 s.cl, .int .i64 s.pa, .slice am lm cm, .slice (some ⟨g, 0, none⟩) s.guess.length cg, .int .i64 s.nu, .int .i64 (ph), .int .i64 (s.vol : Nat), .int .i64 s.c.cl, .int .i64 s.c.nu, .int .i64 s.c.kd, .int .i64 s.c.h1, .int .i64 s.c.h2, .int .i64 s.c.g1, .int .i64 s.c.g2, .string s.c.nm, .string s.c.ot, .int .i64 s.c.m1, .int .i64 s.c.m2, .int .i64 s.c.m3, .string s.c.mt, .bool s.c.fo, .int .i64 s.c.aa, .int .i64 s.c.nn, .int .i64 s.c.tt, .string s.c.bb, .int .i64 0, .int .i64 s.vain, .slice ao s.out.length co, .int .i64 z.nu, .int .i64 z.co, .int .i64 z.a.co, .int .i64 z.a.h1, .int .i64 z.a.h2, .string z.a.b, .int .i64 z.a.i1, .int .i64 z.a.i2, .int .i64 z.a.i3, .int .i64 z.a.i4, .int .i64 z.a.i5, .int .i64 z.a.i6, .int .i64 z.a.i7, .int .i64 z.a.i8, .slice z.a.na z.a.nl z.a.nc] ∧ w'.cell? ⟨g, s.vol, none⟩ = some (.int .i64 x)) [(true, 0), (true, 1), (true, 2), (true, 3), (true, 4), (true, 5), (true, 6), (true, 7), (true, 8), (true, 9), (true, 10), (true, 11), (false, 12), (false, 13), (true, 14), (false, 15)] 15 _ _ (by kernel_rfl) rfl (by kernel_rfl) (by kernel_rfl) rfl (fun _ _ _ _ _ h => h) ⟨HA6.out.drew, hgc6⟩ ?_
  intro S HS
  simp only [pickS, List.getElem?_cons_zero, List.getElem?_cons_succ]
  refine wpSteps_head ?_
  go_big_quiet_want; go_big_quiet_op; go_big_quiet_on
  refine wpQuiet_nil ?_
  refine wpSteps_head ?_
  go_big_quiet_want; apply quiet_value; (· (intro w' hw; have hB := ((HS.out _).1 hw).1; have hnl := hB.lt; go_simp; try rfl)); simp only [Act.put, List.setIfInBounds_toArray, List.set_cons_succ, List.set_cons_zero]; go_big_quiet_on
  refine wpQuiet_nil ?_
  refine wpSteps_head ?_
  go_big_quiet_want; apply quiet_value; (· (intro w' hw; have hB := ((HS.out _).1 hw).1; have hnl := hB.lt; have p6 : w'.cell? ⟨w.heap.size, 6, none⟩ = some (.int .i64 (s.vol : Nat)) := hB.cell 6; go_simp; try rfl)); simp only [Act.put, List.setIfInBounds_toArray, List.set_cons_succ, List.set_cons_zero]; go_big_quiet_on
  refine wpQuiet_nil ?_
  refine wpSteps_head ?_
  go_big_quiet_want; apply quiet_value; (· (intro w' hw; have hB := ((HS.out _).1 hw).1; have hnl := hB.lt; go_simp; try rfl)); simp only [Act.put, List.setIfInBounds_toArray, List.set_cons_succ, List.set_cons_zero]; go_big_quiet_on
  refine wpQuiet_nil ?_
  refine wpSteps_head ?_
  go_big_quiet_want; apply quiet_value; (· (intro w' hw; have hB := ((HS.out _).1 hw).1; have hnl := hB.lt; have p3 : w'.cell? ⟨w.heap.size, 3, none⟩ = some (.slice (some ⟨g, 0, none⟩) s.guess.length cg) := hB.cell 3; go_simp; try rfl)); simp only [Act.put, List.setIfInBounds_toArray, List.set_cons_succ, List.set_cons_zero]; go_big_quiet_on
  refine wpQuiet_nil ?_
  refine wpSteps_head ?_
  go_big_quiet_want; apply quiet_value; (· (intro w' hw; have hB := ((HS.out _).1 hw).1; have hnl := hB.lt; go_simp; try rfl)); simp only [Act.put, List.setIfInBounds_toArray, List.set_cons_succ, List.set_cons_zero]; go_big_quiet_on
  refine wpQuiet_nil ?_
  refine wpSteps_head ?_
  go_big_quiet_want; apply quiet_value; (· (intro w' hw; have hB := ((HS.out _).1 hw).1; have hnl := hB.lt; have p6 : w'.cell? ⟨w.heap.size, 6, none⟩ = some (.int .i64 (s.vol : Nat)) := hB.cell 6; go_simp; try rfl)); simp only [Act.put, List.setIfInBounds_toArray, List.set_cons_succ, List.set_cons_zero]; go_big_quiet_on
  refine wpQuiet_nil ?_
  refine wpSteps_head ?_
  go_big_quiet_want; apply quiet_value; (· (intro w' hw; have hc := ((HS.out _).1 hw).2; have hl := World.block_lt_of_cell? _ _ hc; go_simp; try rfl)); simp only [Act.put, List.setIfInBounds_toArray, List.set_cons_succ, List.set_cons_zero]; go_big_quiet_on
  refine wpQuiet_nil ?_
  refine wpSteps_head ?_
  go_big_quiet_want; apply quiet_value; (· (intro w' hw; have hc := ((HS.out _).1 hw).2; have hl := World.block_lt_of_cell? _ _ hc; go_simp; try rfl)); simp only [Act.put, List.setIfInBounds_toArray, List.set_cons_succ, List.set_cons_zero]; go_big_quiet_on
  refine wpQuiet_nil ?_
  refine wpSteps_head ?_
  go_big_quiet_want; apply quiet_value; (· (intro w' hw; have hB := ((HS.out _).1 hw).1; have hnl := hB.lt; go_simp; try rfl)); simp only [Act.put, List.setIfInBounds_toArray, List.set_cons_succ, List.set_cons_zero]; go_big_quiet_on
  refine wpQuiet_nil ?_
  refine wpSteps_head ?_
  go_big_quiet_want; apply quiet_value; (· (intro w' hw; have hB := ((HS.out _).1 hw).1; exact load_box_val 36 _ rfl w.heap.size 7 rfl hB [.int .i64 s.c.cl, .int .i64 s.c.nu, .int .i64 s.c.kd, .int .i64 s.c.h1, .int .i64 s.c.h2, .int .i64 s.c.g1, .int .i64 s.c.g2, .string s.c.nm, .string s.c.ot, .int .i64 s.c.m1, .int .i64 s.c.m2, .int .i64 s.c.m3, .string s.c.mt, .bool s.c.fo, .int .i64 s.c.aa, .int .i64 s.c.nn, .int .i64 s.c.tt, .string s.c.bb] rfl Try.underlying36 rfl (by kernel_rfl))); simp only [Act.put, List.setIfInBounds_toArray, List.set_cons_succ, List.set_cons_zero]; go_big_quiet_on
  refine wpQuiet_nil ?_
  refine wpSteps_head ?_
  go_big_quiet_want; apply quiet_value; (· (intro w' hw; go_simp; try rfl)); simp only [Act.put, List.setIfInBounds_toArray, List.set_cons_succ, List.set_cons_zero]; go_big_quiet_on
  refine wpQuiet_nil ?_
  refine wpSteps_more ?_
  go_wp2_with fail
  have HA7 := Lib.hid (HA6.out.alloc (.cells #[.int .i64 (s.vol : Nat), .int .i64 x, .int .i64 s.c.cl, .int .i64 s.c.nu, .int .i64 s.c.kd, .int .i64 s.c.h1, .int .i64 s.c.h2, .int .i64 s.c.g1, .int .i64 s.c.g2, .string s.c.nm, .string s.c.ot, .int .i64 s.c.m1, .int .i64 s.c.m2, .int .i64 s.c.m3, .string s.c.mt, .bool s.c.fo, .int .i64 s.c.aa, .int .i64 s.c.nn, .int .i64 s.c.tt, .string s.c.bb] 106)).drew
  have HZ7 := Lib.hid (HZ6.out.alloc (.cells #[.int .i64 (s.vol : Nat), .int .i64 x, .int .i64 s.c.cl, .int .i64 s.c.nu, .int .i64 s.c.kd, .int .i64 s.c.h1, .int .i64 s.c.h2, .int .i64 s.c.g1, .int .i64 s.c.g2, .string s.c.nm, .string s.c.ot, .int .i64 s.c.m1, .int .i64 s.c.m2, .int .i64 s.c.m3, .string s.c.mt, .bool s.c.fo, .int .i64 s.c.aa, .int .i64 s.c.nn, .int .i64 s.c.tt, .string s.c.bb] 106)).drew
  have HB7 := Lib.hid (HB6.out.alloc HB6.out.size (.cells #[.int .i64 (s.vol : Nat), .int .i64 x, .int .i64 s.c.cl, .int .i64 s.c.nu, .int .i64 s.c.kd, .int .i64 s.c.h1, .int .i64 s.c.h2, .int .i64 s.c.g1, .int .i64 s.c.g2, .string s.c.nm, .string s.c.ot, .int .i64 s.c.m1, .int .i64 s.c.m2, .int .i64 s.c.m3, .string s.c.mt, .bool s.c.fo, .int .i64 s.c.aa, .int .i64 s.c.nn, .int .i64 s.c.tt, .string s.c.bb] 106)).drew
  have HQ7 := Lib.hid (Box.new w6 106 #[.int .i64 (s.vol : Nat), .int .i64 x, .int .i64 s.c.cl, .int .i64 s.c.nu, .int .i64 s.c.kd, .int .i64 s.c.h1, .int .i64 s.c.h2, .int .i64 s.c.g1, .int .i64 s.c.g2, .string s.c.nm, .string s.c.ot, .int .i64 s.c.m1, .int .i64 s.c.m2, .int .i64 s.c.m3, .string s.c.mt, .bool s.c.fo, .int .i64 s.c.aa, .int .i64 s.c.nn, .int .i64 s.c.tt, .string s.c.bb]).drew
  have HRO7 := Lib.hid (own_stays HRO6.out (w' := (w6.alloc (.cells #[.int .i64 (s.vol : Nat), .int .i64 x, .int .i64 s.c.cl, .int .i64 s.c.nu, .int .i64 s.c.kd, .int .i64 s.c.h1, .int .i64 s.c.h2, .int .i64 s.c.g1, .int .i64 s.c.g2, .string s.c.nm, .string s.c.ot, .int .i64 s.c.m1, .int .i64 s.c.m2, .int .i64 s.c.m3, .string s.c.mt, .bool s.c.fo, .int .i64 s.c.aa, .int .i64 s.c.nn, .int .i64 s.c.tt, .string s.c.bb] 106)).drew) fun k hk => Below.heap_alloc w6 _ k (own_lt HRO6.out k hk))
  have hgc7 := (HB7.out.cell (p := ⟨g, s.vol, none⟩) hgl).trans HGC.out
  refine ThenS.mk ((HS.out _).2 ⟨HA7.out, hgc7⟩) ?_
  refine wpSteps_more ?_
  generalize hw7 : (w6.alloc (.cells #[.int .i64 (s.vol : Nat), .int .i64 x, .int .i64 s.c.cl, .int .i64 s.c.nu, .int .i64 s.c.kd, .int .i64 s.c.h1, .int .i64 s.c.h2, .int .i64 s.c.g1, .int .i64 s.c.g2, .string s.c.nm, .string s.c.ot, .int .i64 s.c.m1, .int .i64 s.c.m2, .int .i64 s.c.m3, .string s.c.mt, .bool s.c.fo, .int .i64 s.c.aa, .int .i64 s.c.nn, .int .i64 s.c.tt, .string s.c.bb] 106)).drew = w7 at HA7 HZ7 HB7 HQ7 HRO7 hgc7 ⊢
  have HS7 := Lib.hid (rq_src106 (c := 1) ⟨s.vol, x, s.c⟩ HQ7.out)
  have HSZ7 := Lib.hid HB7.out.size
  obtain ⟨i1, hi1, hz01, hz11, hz21⟩ := info_parts row106
  have HI1 := Lib.hid hi1
  have HZZ1 := Lib.hid hz01
  clear hw7 hi1 hz01
  go_wp2_with (at_builtin; refine wpList_append_at rfl (.tmp 9) (.tmp 21) 37 rfl w.heap.size 106 i1 _ 20 192 Try.underlying37 HI1.out HZZ1.out hz11 hz21 rfl (by decide) _ _ _ rfl HRO7.out _ _ _ _ rfl HS7.out ?c2 ?c3 HSZ7.out ?_)
  case c2 => unfold maxLen; omega
  case c3 => omega
  intro v8 w8 own8 g8 at8
  obtain ⟨ad8, c8, rfl, _⟩ := own_shape own8
  have hno : ∀ k, k = w.heap.size ∨ k = w.heap.size + 1 → some k ≠ (Value.slice ad6 s.out.length c6).ownBlock := by
    intro k hk e
    rcases hk with rfl | rfl
    · exact own_box_ne HRO7.out HA7.out (by decide) e.symm
    · exact own_box_ne HRO7.out HZ7.out (by decide) e.symm
  have HA8 := Lib.hid (HA7.out.grown g8 (hno _ (.inl rfl)))
  have HZ8 := Lib.hid (HZ7.out.grown g8 (hno _ (.inr rfl)))
  have HB8 := Lib.hid (HB7.out.grown g8 HSZ7.out (own_ge HRO7.out))
  have HRO8 := Lib.hid own8
  have hgc8 := (HB8.out.cell (p := ⟨g, s.vol, none⟩) hgl).trans HGC.out
  clear own8 g8 at8 hno HA7 HZ7 HB7 HRO7 HQ7 HS7 HSZ7 HI1 HZZ1 hgc7 HRO6 HA6 HZ6 HB6 hgc6
  go_wp2_with fail
  refine ThenS.mk ((HS.out _).2 ⟨HA8.out, hgc8⟩) ?_
  refine wpSteps_head ?_
  go_big_quiet_want; apply quiet_value; (· (intro w' hw; have hB := ((HS.out _).1 hw).1; have hnl := hB.lt; go_simp; try rfl)); simp only [Act.put, List.setIfInBounds_toArray, List.set_cons_succ, List.set_cons_zero]; go_big_quiet_on
  refine wpQuiet_nil ?_
  refine wpSteps_last ?_
  have q27 : w8.cell? ⟨w.heap.size, 27, none⟩ = some (.slice ao s.out.length co) := HA8.out.cell 27
  have qf := HA8.out.frozen 27
  have hal8 := HA8.out.lt
  have HA9 := Lib.hid (show Box (w8.setCell ⟨w.heap.size, 27, none⟩ (.slice ad8 (s.out.length + 1) c8)) w.heap.size 46 #[.int .i64 s.cl, .int .i64 s.pa, .slice am lm cm, .slice (some ⟨g, 0, none⟩) s.guess.length cg, .int .i64 s.nu, .int .i64 (ph), .int .i64 (s.vol : Nat), .int .i64 s.c.cl, .int .i64 s.c.nu, .int .i64 s.c.kd, .int .i64 s.c.h1, .int .i64 s.c.h2, .int .i64 s.c.g1, .int .i64 s.c.g2, .string s.c.nm, .string s.c.ot, .int .i64 s.c.m1, .int .i64 s.c.m2, .int .i64 s.c.m3, .string s.c.mt, .bool s.c.fo, .int .i64 s.c.aa, .int .i64 s.c.nn, .int .i64 s.c.tt, .string s.c.bb, .int .i64 0, .int .i64 s.vain, .slice ad8 (s.out.length + 1) c8, .int .i64 z.nu, .int .i64 z.co, .int .i64 z.a.co, .int .i64 z.a.h1, .int .i64 z.a.h2, .string z.a.b, .int .i64 z.a.i1, .int .i64 z.a.i2, .int .i64 z.a.i3, .int .i64 z.a.i4, .int .i64 z.a.i5, .int .i64 z.a.i6, .int .i64 z.a.i7, .int .i64 z.a.i8, .slice z.a.na z.a.nl z.a.nc] from HA8.out.set 27 _)
  have HZ9 := Lib.hid (HZ8.out.set_other (p := ⟨w.heap.size, 27, none⟩) (by show w.heap.size + 1 ≠ w.heap.size; omega) (.slice ad8 (s.out.length + 1) c8))
  have HB9 := Lib.hid (HB8.out.setCell (p := ⟨w.heap.size, 27, none⟩) (Nat.le_refl _) (.slice ad8 (s.out.length + 1) c8))
  have HRO9 := Lib.hid (own_stays HRO8.out (w' := w8.setCell ⟨w.heap.size, 27, none⟩ (.slice ad8 (s.out.length + 1) c8)) fun k hk => Below.heap_setCell _ _ _ _ (by rintro rfl; exact own_box_ne HRO8.out HA8.out (by decide) hk))
  go_wp2_with (first | (refine wpList_load_box rfl 46 (.tmp 1) rfl _ 0 rfl HA9.out [.int .i64 s.cl, .int .i64 s.pa, .slice am lm cm, .slice (some ⟨g, 0, none⟩) s.guess.length cg, .int .i64 s.nu, .int .i64 (ph), .int .i64 (s.vol : Nat), .int .i64 s.c.cl, .int .i64 s.c.nu, .int .i64 s.c.kd, .int .i64 s.c.h1, .int .i64 s.c.h2, .int .i64 s.c.g1, .int .i64 s.c.g2, .string s.c.nm, .string s.c.ot, .int .i64 s.c.m1, .int .i64 s.c.m2, .int .i64 s.c.m3, .string s.c.mt, .bool s.c.fo, .int .i64 s.c.aa, .int .i64 s.c.nn, .int .i64 s.c.tt, .string s.c.bb, .int .i64 0, .int .i64 s.vain, .slice ad8 (s.out.length + 1) c8, .int .i64 z.nu, .int .i64 z.co, .int .i64 z.a.co, .int .i64 z.a.h1, .int .i64 z.a.h2, .string z.a.b, .int .i64 z.a.i1, .int .i64 z.a.i2, .int .i64 z.a.i3, .int .i64 z.a.i4, .int .i64 z.a.i5, .int .i64 z.a.i6, .int .i64 z.a.i7, .int .i64 z.a.i8, .slice z.a.na z.a.nl z.a.nc] rfl Try.underlying46 rfl (by kernel_rfl) ?_) | (refine wpList_store_box rfl 46 (.tmp 2) (.tmp 24) rfl rfl _ 0 rfl [.int .i64 s.cl, .int .i64 s.pa, .slice am lm cm, .slice (some ⟨g, 0, none⟩) s.guess.length cg, .int .i64 s.nu, .int .i64 (ph), .int .i64 (s.vol : Nat), .int .i64 s.c.cl, .int .i64 s.c.nu, .int .i64 s.c.kd, .int .i64 s.c.h1, .int .i64 s.c.h2, .int .i64 s.c.g1, .int .i64 s.c.g2, .string s.c.nm, .string s.c.ot, .int .i64 s.c.m1, .int .i64 s.c.m2, .int .i64 s.c.m3, .string s.c.mt, .bool s.c.fo, .int .i64 s.c.aa, .int .i64 s.c.nn, .int .i64 s.c.tt, .string s.c.bb, .int .i64 0, .int .i64 s.vain, .slice ad8 (s.out.length + 1) c8, .int .i64 z.nu, .int .i64 z.co, .int .i64 z.a.co, .int .i64 z.a.h1, .int .i64 z.a.h2, .string z.a.b, .int .i64 z.a.i1, .int .i64 z.a.i2, .int .i64 z.a.i3, .int .i64 z.a.i4, .int .i64 z.a.i5, .int .i64 z.a.i6, .int .i64 z.a.i7, .int .i64 z.a.i8, .slice z.a.na z.a.nl z.a.nc] rfl HZ9.out #[.int .i64 s.cl, .int .i64 s.pa, .slice am lm cm, .slice (some ⟨g, 0, none⟩) s.guess.length cg, .int .i64 s.nu, .int .i64 (ph), .int .i64 (s.vol : Nat), .int .i64 s.c.cl, .int .i64 s.c.nu, .int .i64 s.c.kd, .int .i64 s.c.h1, .int .i64 s.c.h2, .int .i64 s.c.g1, .int .i64 s.c.g2, .string s.c.nm, .string s.c.ot, .int .i64 s.c.m1, .int .i64 s.c.m2, .int .i64 s.c.m3, .string s.c.mt, .bool s.c.fo, .int .i64 s.c.aa, .int .i64 s.c.nn, .int .i64 s.c.tt, .string s.c.bb, .int .i64 0, .int .i64 s.vain, .slice ad8 (s.out.length + 1) c8, .int .i64 z.nu, .int .i64 z.co, .int .i64 z.a.co, .int .i64 z.a.h1, .int .i64 z.a.h2, .string z.a.b, .int .i64 z.a.i1, .int .i64 z.a.i2, .int .i64 z.a.i3, .int .i64 z.a.i4, .int .i64 z.a.i5, .int .i64 z.a.i6, .int .i64 z.a.i7, .int .i64 z.a.i8, .slice z.a.na z.a.nl z.a.nc] (by kernel_rfl) (by kernel_rfl) (by kernel_rfl) (by kernel_rfl) ?_))
  have HZ10 := Lib.hid (HZ9.out.setRow #[.int .i64 s.cl, .int .i64 s.pa, .slice am lm cm, .slice (some ⟨g, 0, none⟩) s.guess.length cg, .int .i64 s.nu, .int .i64 (ph), .int .i64 (s.vol : Nat), .int .i64 s.c.cl, .int .i64 s.c.nu, .int .i64 s.c.kd, .int .i64 s.c.h1, .int .i64 s.c.h2, .int .i64 s.c.g1, .int .i64 s.c.g2, .string s.c.nm, .string s.c.ot, .int .i64 s.c.m1, .int .i64 s.c.m2, .int .i64 s.c.m3, .string s.c.mt, .bool s.c.fo, .int .i64 s.c.aa, .int .i64 s.c.nn, .int .i64 s.c.tt, .string s.c.bb, .int .i64 0, .int .i64 s.vain, .slice ad8 (s.out.length + 1) c8, .int .i64 z.nu, .int .i64 z.co, .int .i64 z.a.co, .int .i64 z.a.h1, .int .i64 z.a.h2, .string z.a.b, .int .i64 z.a.i1, .int .i64 z.a.i2, .int .i64 z.a.i3, .int .i64 z.a.i4, .int .i64 z.a.i5, .int .i64 z.a.i6, .int .i64 z.a.i7, .int .i64 z.a.i8, .slice z.a.na z.a.nl z.a.nc])
  have HB10 := Lib.hid (Below.setRow HB9.out (g := w.heap.size + 1) (by omega) #[.int .i64 s.cl, .int .i64 s.pa, .slice am lm cm, .slice (some ⟨g, 0, none⟩) s.guess.length cg, .int .i64 s.nu, .int .i64 (ph), .int .i64 (s.vol : Nat), .int .i64 s.c.cl, .int .i64 s.c.nu, .int .i64 s.c.kd, .int .i64 s.c.h1, .int .i64 s.c.h2, .int .i64 s.c.g1, .int .i64 s.c.g2, .string s.c.nm, .string s.c.ot, .int .i64 s.c.m1, .int .i64 s.c.m2, .int .i64 s.c.m3, .string s.c.mt, .bool s.c.fo, .int .i64 s.c.aa, .int .i64 s.c.nn, .int .i64 s.c.tt, .string s.c.bb, .int .i64 0, .int .i64 s.vain, .slice ad8 (s.out.length + 1) c8, .int .i64 z.nu, .int .i64 z.co, .int .i64 z.a.co, .int .i64 z.a.h1, .int .i64 z.a.h2, .string z.a.b, .int .i64 z.a.i1, .int .i64 z.a.i2, .int .i64 z.a.i3, .int .i64 z.a.i4, .int .i64 z.a.i5, .int .i64 z.a.i6, .int .i64 z.a.i7, .int .i64 z.a.i8, .slice z.a.na z.a.nl z.a.nc])
  have HRO10 := own_stays HRO9.out (w' := (w8.setCell ⟨w.heap.size, 27, none⟩ (.slice ad8 (s.out.length + 1) c8)).setRow (w.heap.size + 1) #[.int .i64 s.cl, .int .i64 s.pa, .slice am lm cm, .slice (some ⟨g, 0, none⟩) s.guess.length cg, .int .i64 s.nu, .int .i64 (ph), .int .i64 (s.vol : Nat), .int .i64 s.c.cl, .int .i64 s.c.nu, .int .i64 s.c.kd, .int .i64 s.c.h1, .int .i64 s.c.h2, .int .i64 s.c.g1, .int .i64 s.c.g2, .string s.c.nm, .string s.c.ot, .int .i64 s.c.m1, .int .i64 s.c.m2, .int .i64 s.c.m3, .string s.c.mt, .bool s.c.fo, .int .i64 s.c.aa, .int .i64 s.c.nn, .int .i64 s.c.tt, .string s.c.bb, .int .i64 0, .int .i64 s.vain, .slice ad8 (s.out.length + 1) c8, .int .i64 z.nu, .int .i64 z.co, .int .i64 z.a.co, .int .i64 z.a.h1, .int .i64 z.a.h2, .string z.a.b, .int .i64 z.a.i1, .int .i64 z.a.i2, .int .i64 z.a.i3, .int .i64 z.a.i4, .int .i64 z.a.i5, .int .i64 z.a.i6, .int .i64 z.a.i7, .int .i64 z.a.i8, .slice z.a.na z.a.nl z.a.nc]) fun k hk => Go.setRow_other _ _ _ _ (by rintro rfl; exact own_box_ne HRO9.out HZ9.out (by decide) hk)
  refine ret_c Try.results29 rfl rfl (HZ10.out.load Try.underlying46 rfl (by kernel_rfl)) ⟨⟨.slice am lm cm, .slice (some ⟨g, 0, none⟩) s.guess.length cg, .slice ad8 (s.out.length + 1) c8⟩, rfl, ⟨?_, ?_, ?_⟩, ⟨HB10.out, rfl, fun k hk => .inl hk, fun k hk => .inr (own_ge HRO10 k hk)⟩⟩
  · exact (HR.out.below HB10.out).rm
  · exact (HR.out.below HB10.out).rg
  · have := own_base' HRO10 (Nat.zero_le _)
    show World.ownsRow _ 0 106 20 _ (s.out ++ [_]).length ((s.out ++ [_]).flatMap ql)
    rw [List.length_append, List.flatMap_append, List.flatMap_singleton, ← HXX.out]
    exact this
end Go.Proofs.Ytlkilkndjfcejaa
