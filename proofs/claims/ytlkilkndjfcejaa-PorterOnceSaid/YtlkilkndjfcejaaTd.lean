/- porter: the document's Start, a call begins; Start as a whole. Conditions: the client is in its bounds. -/
import Derived.Test.YtlkilkndjfcejaaTc
namespace Go.Proofs.Ytlkilkndjfcejaa
open Go Go.RowKit
set_option linter.unusedVariables false
set_option linter.unusedSimpArgs false
variable {w w' : World} {s s' : St} {V V' : Vr}

/-- what Start has in memory. -/
structure Sk (w W : World) (A C : Array Value) : Prop where
  a : Box W w.heap.size 46 A
  c : Box W (w.heap.size + 1) 36 C
  z : Box W (w.heap.size + 1 + 1) 46 #[.int .i64 0, .int .i64 0, .slice none 0 0, .slice none 0 0, .int .i64 0, .int .i64 0, .int .i64 0, .int .i64 0, .int .i64 0, .int .i64 0, .int .i64 0, .int .i64 0, .int .i64 0, .int .i64 0, .string ⟨#[]⟩, .string ⟨#[]⟩, .int .i64 0, .int .i64 0, .int .i64 0, .string ⟨#[]⟩, .bool false, .int .i64 0, .int .i64 0, .int .i64 0, .string ⟨#[]⟩, .int .i64 0, .int .i64 0, .slice none 0 0, .int .i64 0, .int .i64 0, .int .i64 0, .int .i64 0, .int .i64 0, .string ⟨#[]⟩, .int .i64 0, .int .i64 0, .int .i64 0, .int .i64 0, .int .i64 0, .int .i64 0, .int .i64 0, .int .i64 0, .slice none 0 0]
  b : Below w.heap.size w W
theorem Sk.setA {W : World} {A C : Array Value} (h : Sk w W A C) (j : Nat) (u : Value) : Sk w (W.setCell ⟨w.heap.size, j, none⟩ u) (A.setIfInBounds j u) C :=
  ⟨h.a.set j u, h.c.set_other (p := ⟨w.heap.size, j, none⟩) (by show w.heap.size + 1 ≠ w.heap.size; omega) u, h.z.set_other (p := ⟨w.heap.size, j, none⟩) (by show w.heap.size + 1 + 1 ≠ w.heap.size; omega) u, h.b.setCell (p := ⟨w.heap.size, j, none⟩) (Nat.le_refl _) u⟩
theorem Sk.setC {W : World} {A C : Array Value} (h : Sk w W A C) (j : Nat) (u : Value) : Sk w (W.setCell ⟨w.heap.size + 1, j, none⟩ u) A (C.setIfInBounds j u) :=
  ⟨h.a.set_other (p := ⟨w.heap.size + 1, j, none⟩) (by show w.heap.size ≠ w.heap.size + 1; omega) u, h.c.set j u, h.z.set_other (p := ⟨w.heap.size + 1, j, none⟩) (by show w.heap.size + 1 + 1 ≠ w.heap.size + 1; omega) u, h.b.setCell (p := ⟨w.heap.size + 1, j, none⟩) (by show w.heap.size ≤ w.heap.size + 1; omega) u⟩
theorem Sk.row {W : World} {A C : Array Value} (h : Sk w W A C) (new : Array Value) : Sk w (W.setRow w.heap.size new) new C :=
  ⟨h.a.setRow new, h.c.setRow_other new (by omega), h.z.setRow_other new (by omega), Below.setRow h.b (Nat.le_refl _) new⟩
theorem Sk.new (w : World) (A C : Array Value) : Sk w (((w.alloc (.cells A 46)).alloc (.cells C 36)).alloc (.cells #[.int .i64 0, .int .i64 0, .slice none 0 0, .slice none 0 0, .int .i64 0, .int .i64 0, .int .i64 0, .int .i64 0, .int .i64 0, .int .i64 0, .int .i64 0, .int .i64 0, .int .i64 0, .int .i64 0, .string ⟨#[]⟩, .string ⟨#[]⟩, .int .i64 0, .int .i64 0, .int .i64 0, .string ⟨#[]⟩, .bool false, .int .i64 0, .int .i64 0, .int .i64 0, .string ⟨#[]⟩, .int .i64 0, .int .i64 0, .slice none 0 0, .int .i64 0, .int .i64 0, .int .i64 0, .int .i64 0, .int .i64 0, .string ⟨#[]⟩, .int .i64 0, .int .i64 0, .int .i64 0, .int .i64 0, .int .i64 0, .int .i64 0, .int .i64 0, .int .i64 0, .slice none 0 0] 46)) A C :=
  ⟨box3a w A 46 36 C _, box3b w _ _ C 36, box3c w _ _ _ 46, (((Below.refl w.heap.size w).alloc (Nat.le_refl _) _).alloc (by simp) _).alloc (by simp; omega) _⟩
/-- Start's end. -/
def StartPost (w : World) (V : Vr) (s' : St) (b : Bool) (e : Ending) (w' : World) : Prop := ∃ V' z, e = .returned (.tuple #[.agg (rcs s' V' (phS s') z), .bool b]) ∧ (∀ r, s'.done = [r] → z = r) ∧ Rt w' V' s' ∧ RTo w w' V V'
set_option maxRecDepth 100000 in
set_option maxHeartbeats 8000000 in
theorem rstart_yes (z : Rs) (k : Nat) (c : Cl) (hz : ∀ r, s.done = [r] → z = r) (h : Rt w V s) (ho : Okay s) (hl : s.out.length ≤ 500) (hnu : s.nu < 100000) (hy : startB s k c = true) : Calls Try.prog 10 #[.agg (rcs s V (phS s) z), .int .i64 k, .agg (cc c)] w (StartPost w V (startS s k c) true) := by
  have hst : startS s k c = askS { s with nu := s.nu + 1, busy := true, vol := k, c := { c with cl := s.cl, nu := s.nu + 1 }, vain := 0 } := by rw [startS, if_pos hy]; rfl
  simp only [startB, Bool.and_eq_true, Bool.not_eq_true', List.isEmpty_iff, decide_eq_true_eq] at hy
  obtain ⟨⟨⟨⟨hb, hd⟩, ht⟩, hk1⟩, hk2⟩ := hy
  have hph : phS s = 0 := by rw [phS, hb, hd]; rfl
  rw [hph]
  simp only [thereB, Bool.and_eq_true, decide_eq_true_eq] at ht
  have hkl : k < s.many.length := by omega
  obtain ⟨s2, hs2⟩ : ∃ s2 : St, s2 = { s with nu := s.nu + 1, busy := true, vol := k, c := { c with cl := s.cl, nu := s.nu + 1 }, vain := 0 } := ⟨_, rfl⟩
  have hst2 : startS s (k : Int) c = askS s2 := by rw [hst, hs2]
  have hf2 : Fit s2 := by
    rw [hs2]
    exact ⟨ho.fit.len, ho.fit.few, hkl, ho.fit.many, ho.fit.guess, by show (0 : Int) ≤ s.nu + 1; have := ho.fit.nu0; omega, by show s.nu + 1 ≤ 100000; omega, ho.fit.wait0, ho.fit.wait1, ho.fit.pa0, ho.fit.pa, by show (0 : Int) ≤ 0; omega, by show (0 : Int) ≤ 21; omega, ho.fit.done⟩
  have HF2 := Lib.hid hf2
  have HS2 := Lib.hid hs2
  have HL2 := Lib.hid (show s2.out.length ≤ 500 by rw [hs2]; exact hl)
  have HD2 := Lib.hid (show s2.done = [] by rw [hs2]; exact hd)
  have hnu0 := ho.fit.nu0
  have k1 : ¬ c.kd < 1 := by omega
  have k2 : ¬ 11 < c.kd := by omega
  obtain ⟨am, lm, cm, hvm, hmI⟩ := h.rm
  have hlm : lm = s.many.length := hmI.1.symm
  have kl : ¬ (lm : Int) ≤ (k : Int) := by omega
  have k0 : ¬ (k : Int) < 0 := by omega
  have HVM := Lib.hid hvm
  have HR := Lib.hid h
  have HST := Lib.hid hst2
  have HT := Lib.hid (Sk.new w #[.int .i64 s.cl, .int .i64 s.pa, V.m, V.g, .int .i64 s.nu, .int .i64 (0), .int .i64 (s.vol : Nat), .int .i64 s.c.cl, .int .i64 s.c.nu, .int .i64 s.c.kd, .int .i64 s.c.h1, .int .i64 s.c.h2, .int .i64 s.c.g1, .int .i64 s.c.g2, .string s.c.nm, .string s.c.ot, .int .i64 s.c.m1, .int .i64 s.c.m2, .int .i64 s.c.m3, .string s.c.mt, .bool s.c.fo, .int .i64 s.c.aa, .int .i64 s.c.nn, .int .i64 s.c.tt, .string s.c.bb, .int .i64 s.wait, .int .i64 s.vain, V.o, .int .i64 z.nu, .int .i64 z.co, .int .i64 z.a.co, .int .i64 z.a.h1, .int .i64 z.a.h2, .string z.a.b, .int .i64 z.a.i1, .int .i64 z.a.i2, .int .i64 z.a.i3, .int .i64 z.a.i4, .int .i64 z.a.i5, .int .i64 z.a.i6, .int .i64 z.a.i7, .int .i64 z.a.i8, .slice z.a.na z.a.nl z.a.nc] #[.int .i64 c.cl, .int .i64 c.nu, .int .i64 c.kd, .int .i64 c.h1, .int .i64 c.h2, .int .i64 c.g1, .int .i64 c.g2, .string c.nm, .string c.ot, .int .i64 c.m1, .int .i64 c.m2, .int .i64 c.m3, .string c.mt, .bool c.fo, .int .i64 c.aa, .int .i64 c.nn, .int .i64 c.tt, .string c.bb])
  clear h ho hst hb hd ht hk1 hk2 hph hs2 hst2 hf2 hvm hmI hlm hz hl hkl
  go_enter Try.func10, Try.ntmps10
  go_upto_region 1 with (fail)
  refine wp_name (fun W3 => Sk w W3 #[.int .i64 s.cl, .int .i64 s.pa, V.m, V.g, .int .i64 s.nu, .int .i64 (0), .int .i64 (s.vol : Nat), .int .i64 s.c.cl, .int .i64 s.c.nu, .int .i64 s.c.kd, .int .i64 s.c.h1, .int .i64 s.c.h2, .int .i64 s.c.g1, .int .i64 s.c.g2, .string s.c.nm, .string s.c.ot, .int .i64 s.c.m1, .int .i64 s.c.m2, .int .i64 s.c.m3, .string s.c.mt, .bool s.c.fo, .int .i64 s.c.aa, .int .i64 s.c.nn, .int .i64 s.c.tt, .string s.c.bb, .int .i64 s.wait, .int .i64 s.vain, V.o, .int .i64 z.nu, .int .i64 z.co, .int .i64 z.a.co, .int .i64 z.a.h1, .int .i64 z.a.h2, .string z.a.b, .int .i64 z.a.i1, .int .i64 z.a.i2, .int .i64 z.a.i3, .int .i64 z.a.i4, .int .i64 z.a.i5, .int .i64 z.a.i6, .int .i64 z.a.i7, .int .i64 z.a.i8, .slice z.a.na z.a.nl z.a.nc] #[.int .i64 c.cl, .int .i64 c.nu, .int .i64 c.kd, .int .i64 c.h1, .int .i64 c.h2, .int .i64 c.g1, .int .i64 c.g2, .string c.nm, .string c.ot, .int .i64 c.m1, .int .i64 c.m2, .int .i64 c.m3, .string c.mt, .bool c.fo, .int .i64 c.aa, .int .i64 c.nn, .int .i64 c.tt, .string c.bb]) HT.out ?_
  clear HT
  rintro W3 hT
  have hal := hT.a.lt
  have hcl := hT.c.lt
  have hzl := hT.z.lt
  have a2 : W3.cell? ⟨w.heap.size, 2, none⟩ = some V.m := hT.a.cell 2
  rw [HVM.out] at a2
  have a5 : W3.cell? ⟨w.heap.size, 5, none⟩ = some (.int .i64 0) := hT.a.cell 5
  have a4 : W3.cell? ⟨w.heap.size, 4, none⟩ = some (.int .i64 s.nu) := hT.a.cell 4
  have c2 : W3.cell? ⟨w.heap.size + 1, 2, none⟩ = some (.int .i64 c.kd) := hT.c.cell 2
  have f4 := hT.a.frozen 4
  have HT2 := Lib.hid (show Sk w (W3.setCell ⟨w.heap.size, 4, none⟩ (.int .i64 (s.nu + 1))) #[.int .i64 s.cl, .int .i64 s.pa, V.m, V.g, .int .i64 (s.nu + 1), .int .i64 (0), .int .i64 (s.vol : Nat), .int .i64 s.c.cl, .int .i64 s.c.nu, .int .i64 s.c.kd, .int .i64 s.c.h1, .int .i64 s.c.h2, .int .i64 s.c.g1, .int .i64 s.c.g2, .string s.c.nm, .string s.c.ot, .int .i64 s.c.m1, .int .i64 s.c.m2, .int .i64 s.c.m3, .string s.c.mt, .bool s.c.fo, .int .i64 s.c.aa, .int .i64 s.c.nn, .int .i64 s.c.tt, .string s.c.bb, .int .i64 s.wait, .int .i64 s.vain, V.o, .int .i64 z.nu, .int .i64 z.co, .int .i64 z.a.co, .int .i64 z.a.h1, .int .i64 z.a.h2, .string z.a.b, .int .i64 z.a.i1, .int .i64 z.a.i2, .int .i64 z.a.i3, .int .i64 z.a.i4, .int .i64 z.a.i5, .int .i64 z.a.i6, .int .i64 z.a.i7, .int .i64 z.a.i8, .slice z.a.na z.a.nl z.a.nc] #[.int .i64 c.cl, .int .i64 c.nu, .int .i64 c.kd, .int .i64 c.h1, .int .i64 c.h2, .int .i64 c.g1, .int .i64 c.g2, .string c.nm, .string c.ot, .int .i64 c.m1, .int .i64 c.m2, .int .i64 c.m3, .string c.mt, .bool c.fo, .int .i64 c.aa, .int .i64 c.nn, .int .i64 c.tt, .string c.bb] from hT.setA 4 _)
  have HT0 := Lib.hid hT
  clear hT
  go_upto_region 4 with (fail)
  clear HT0 hal hcl hzl a2 a5 a4 c2 f4
  have HT := HT2
  clear HT2
  refine wp_name (fun W4 => Sk w W4 #[.int .i64 s.cl, .int .i64 s.pa, V.m, V.g, .int .i64 (s.nu + 1), .int .i64 (0), .int .i64 (s.vol : Nat), .int .i64 s.c.cl, .int .i64 s.c.nu, .int .i64 s.c.kd, .int .i64 s.c.h1, .int .i64 s.c.h2, .int .i64 s.c.g1, .int .i64 s.c.g2, .string s.c.nm, .string s.c.ot, .int .i64 s.c.m1, .int .i64 s.c.m2, .int .i64 s.c.m3, .string s.c.mt, .bool s.c.fo, .int .i64 s.c.aa, .int .i64 s.c.nn, .int .i64 s.c.tt, .string s.c.bb, .int .i64 s.wait, .int .i64 s.vain, V.o, .int .i64 z.nu, .int .i64 z.co, .int .i64 z.a.co, .int .i64 z.a.h1, .int .i64 z.a.h2, .string z.a.b, .int .i64 z.a.i1, .int .i64 z.a.i2, .int .i64 z.a.i3, .int .i64 z.a.i4, .int .i64 z.a.i5, .int .i64 z.a.i6, .int .i64 z.a.i7, .int .i64 z.a.i8, .slice z.a.na z.a.nl z.a.nc] #[.int .i64 c.cl, .int .i64 c.nu, .int .i64 c.kd, .int .i64 c.h1, .int .i64 c.h2, .int .i64 c.g1, .int .i64 c.g2, .string c.nm, .string c.ot, .int .i64 c.m1, .int .i64 c.m2, .int .i64 c.m3, .string c.mt, .bool c.fo, .int .i64 c.aa, .int .i64 c.nn, .int .i64 c.tt, .string c.bb]) HT.out ?_
  clear HT
  rintro W4 hT
  have hal := hT.a.lt
  have hcl := hT.c.lt
  have hzl := hT.z.lt
  have a0 : W4.cell? ⟨w.heap.size, 0, none⟩ = some (.int .i64 s.cl) := hT.a.cell 0
  have c0 : W4.cell? ⟨w.heap.size + 1, 0, none⟩ = some (.int .i64 c.cl) := hT.c.cell 0
  have g0 := hT.c.frozen 0
  have HT2 := Lib.hid (show Sk w (W4.setCell ⟨w.heap.size + 1, 0, none⟩ (.int .i64 s.cl)) #[.int .i64 s.cl, .int .i64 s.pa, V.m, V.g, .int .i64 (s.nu + 1), .int .i64 (0), .int .i64 (s.vol : Nat), .int .i64 s.c.cl, .int .i64 s.c.nu, .int .i64 s.c.kd, .int .i64 s.c.h1, .int .i64 s.c.h2, .int .i64 s.c.g1, .int .i64 s.c.g2, .string s.c.nm, .string s.c.ot, .int .i64 s.c.m1, .int .i64 s.c.m2, .int .i64 s.c.m3, .string s.c.mt, .bool s.c.fo, .int .i64 s.c.aa, .int .i64 s.c.nn, .int .i64 s.c.tt, .string s.c.bb, .int .i64 s.wait, .int .i64 s.vain, V.o, .int .i64 z.nu, .int .i64 z.co, .int .i64 z.a.co, .int .i64 z.a.h1, .int .i64 z.a.h2, .string z.a.b, .int .i64 z.a.i1, .int .i64 z.a.i2, .int .i64 z.a.i3, .int .i64 z.a.i4, .int .i64 z.a.i5, .int .i64 z.a.i6, .int .i64 z.a.i7, .int .i64 z.a.i8, .slice z.a.na z.a.nl z.a.nc] #[.int .i64 s.cl, .int .i64 c.nu, .int .i64 c.kd, .int .i64 c.h1, .int .i64 c.h2, .int .i64 c.g1, .int .i64 c.g2, .string c.nm, .string c.ot, .int .i64 c.m1, .int .i64 c.m2, .int .i64 c.m3, .string c.mt, .bool c.fo, .int .i64 c.aa, .int .i64 c.nn, .int .i64 c.tt, .string c.bb] from hT.setC 0 _)
  have HT0 := Lib.hid hT
  clear hT
  go_upto_region 5 with (fail)
  clear HT0 hal hcl hzl a0 c0 g0
  have HT := HT2
  clear HT2
  refine wp_name (fun W5 => Sk w W5 #[.int .i64 s.cl, .int .i64 s.pa, V.m, V.g, .int .i64 (s.nu + 1), .int .i64 (0), .int .i64 (s.vol : Nat), .int .i64 s.c.cl, .int .i64 s.c.nu, .int .i64 s.c.kd, .int .i64 s.c.h1, .int .i64 s.c.h2, .int .i64 s.c.g1, .int .i64 s.c.g2, .string s.c.nm, .string s.c.ot, .int .i64 s.c.m1, .int .i64 s.c.m2, .int .i64 s.c.m3, .string s.c.mt, .bool s.c.fo, .int .i64 s.c.aa, .int .i64 s.c.nn, .int .i64 s.c.tt, .string s.c.bb, .int .i64 s.wait, .int .i64 s.vain, V.o, .int .i64 z.nu, .int .i64 z.co, .int .i64 z.a.co, .int .i64 z.a.h1, .int .i64 z.a.h2, .string z.a.b, .int .i64 z.a.i1, .int .i64 z.a.i2, .int .i64 z.a.i3, .int .i64 z.a.i4, .int .i64 z.a.i5, .int .i64 z.a.i6, .int .i64 z.a.i7, .int .i64 z.a.i8, .slice z.a.na z.a.nl z.a.nc] #[.int .i64 s.cl, .int .i64 c.nu, .int .i64 c.kd, .int .i64 c.h1, .int .i64 c.h2, .int .i64 c.g1, .int .i64 c.g2, .string c.nm, .string c.ot, .int .i64 c.m1, .int .i64 c.m2, .int .i64 c.m3, .string c.mt, .bool c.fo, .int .i64 c.aa, .int .i64 c.nn, .int .i64 c.tt, .string c.bb]) HT.out ?_
  clear HT
  rintro W5 hT
  have hal := hT.a.lt
  have hcl := hT.c.lt
  have hzl := hT.z.lt
  have a4 : W5.cell? ⟨w.heap.size, 4, none⟩ = some (.int .i64 (s.nu + 1)) := hT.a.cell 4
  have c1 : W5.cell? ⟨w.heap.size + 1, 1, none⟩ = some (.int .i64 c.nu) := hT.c.cell 1
  have g1 := hT.c.frozen 1
  have HT2 := Lib.hid (show Sk w (W5.setCell ⟨w.heap.size + 1, 1, none⟩ (.int .i64 (s.nu + 1))) #[.int .i64 s.cl, .int .i64 s.pa, V.m, V.g, .int .i64 (s.nu + 1), .int .i64 (0), .int .i64 (s.vol : Nat), .int .i64 s.c.cl, .int .i64 s.c.nu, .int .i64 s.c.kd, .int .i64 s.c.h1, .int .i64 s.c.h2, .int .i64 s.c.g1, .int .i64 s.c.g2, .string s.c.nm, .string s.c.ot, .int .i64 s.c.m1, .int .i64 s.c.m2, .int .i64 s.c.m3, .string s.c.mt, .bool s.c.fo, .int .i64 s.c.aa, .int .i64 s.c.nn, .int .i64 s.c.tt, .string s.c.bb, .int .i64 s.wait, .int .i64 s.vain, V.o, .int .i64 z.nu, .int .i64 z.co, .int .i64 z.a.co, .int .i64 z.a.h1, .int .i64 z.a.h2, .string z.a.b, .int .i64 z.a.i1, .int .i64 z.a.i2, .int .i64 z.a.i3, .int .i64 z.a.i4, .int .i64 z.a.i5, .int .i64 z.a.i6, .int .i64 z.a.i7, .int .i64 z.a.i8, .slice z.a.na z.a.nl z.a.nc] #[.int .i64 s.cl, .int .i64 (s.nu + 1), .int .i64 c.kd, .int .i64 c.h1, .int .i64 c.h2, .int .i64 c.g1, .int .i64 c.g2, .string c.nm, .string c.ot, .int .i64 c.m1, .int .i64 c.m2, .int .i64 c.m3, .string c.mt, .bool c.fo, .int .i64 c.aa, .int .i64 c.nn, .int .i64 c.tt, .string c.bb] from hT.setC 1 _)
  have HT0 := Lib.hid hT
  clear hT
  go_upto_region 6 with (fail)
  clear HT0 hal hcl hzl a4 c1 g1
  have HT := HT2
  clear HT2
  refine wp_name (fun W6 => Sk w W6 #[.int .i64 s.cl, .int .i64 s.pa, V.m, V.g, .int .i64 (s.nu + 1), .int .i64 (0), .int .i64 (s.vol : Nat), .int .i64 s.c.cl, .int .i64 s.c.nu, .int .i64 s.c.kd, .int .i64 s.c.h1, .int .i64 s.c.h2, .int .i64 s.c.g1, .int .i64 s.c.g2, .string s.c.nm, .string s.c.ot, .int .i64 s.c.m1, .int .i64 s.c.m2, .int .i64 s.c.m3, .string s.c.mt, .bool s.c.fo, .int .i64 s.c.aa, .int .i64 s.c.nn, .int .i64 s.c.tt, .string s.c.bb, .int .i64 s.wait, .int .i64 s.vain, V.o, .int .i64 z.nu, .int .i64 z.co, .int .i64 z.a.co, .int .i64 z.a.h1, .int .i64 z.a.h2, .string z.a.b, .int .i64 z.a.i1, .int .i64 z.a.i2, .int .i64 z.a.i3, .int .i64 z.a.i4, .int .i64 z.a.i5, .int .i64 z.a.i6, .int .i64 z.a.i7, .int .i64 z.a.i8, .slice z.a.na z.a.nl z.a.nc] #[.int .i64 s.cl, .int .i64 (s.nu + 1), .int .i64 c.kd, .int .i64 c.h1, .int .i64 c.h2, .int .i64 c.g1, .int .i64 c.g2, .string c.nm, .string c.ot, .int .i64 c.m1, .int .i64 c.m2, .int .i64 c.m3, .string c.mt, .bool c.fo, .int .i64 c.aa, .int .i64 c.nn, .int .i64 c.tt, .string c.bb]) HT.out ?_
  clear HT
  rintro W6 hT
  have hal := hT.a.lt
  have hcl := hT.c.lt
  have hzl := hT.z.lt
  have a5 : W6.cell? ⟨w.heap.size, 5, none⟩ = some (.int .i64 0) := hT.a.cell 5
  have f5 := hT.a.frozen 5
  have HT2 := Lib.hid (show Sk w (W6.setCell ⟨w.heap.size, 5, none⟩ (.int .i64 1)) #[.int .i64 s.cl, .int .i64 s.pa, V.m, V.g, .int .i64 (s.nu + 1), .int .i64 1, .int .i64 (s.vol : Nat), .int .i64 s.c.cl, .int .i64 s.c.nu, .int .i64 s.c.kd, .int .i64 s.c.h1, .int .i64 s.c.h2, .int .i64 s.c.g1, .int .i64 s.c.g2, .string s.c.nm, .string s.c.ot, .int .i64 s.c.m1, .int .i64 s.c.m2, .int .i64 s.c.m3, .string s.c.mt, .bool s.c.fo, .int .i64 s.c.aa, .int .i64 s.c.nn, .int .i64 s.c.tt, .string s.c.bb, .int .i64 s.wait, .int .i64 s.vain, V.o, .int .i64 z.nu, .int .i64 z.co, .int .i64 z.a.co, .int .i64 z.a.h1, .int .i64 z.a.h2, .string z.a.b, .int .i64 z.a.i1, .int .i64 z.a.i2, .int .i64 z.a.i3, .int .i64 z.a.i4, .int .i64 z.a.i5, .int .i64 z.a.i6, .int .i64 z.a.i7, .int .i64 z.a.i8, .slice z.a.na z.a.nl z.a.nc] #[.int .i64 s.cl, .int .i64 (s.nu + 1), .int .i64 c.kd, .int .i64 c.h1, .int .i64 c.h2, .int .i64 c.g1, .int .i64 c.g2, .string c.nm, .string c.ot, .int .i64 c.m1, .int .i64 c.m2, .int .i64 c.m3, .string c.mt, .bool c.fo, .int .i64 c.aa, .int .i64 c.nn, .int .i64 c.tt, .string c.bb] from hT.setA 5 _)
  have HT0 := Lib.hid hT
  clear hT
  go_upto_region 7 with (fail)
  clear HT0 hal hcl hzl a5 f5
  have HT := HT2
  clear HT2
  refine wp_name (fun W7 => Sk w W7 #[.int .i64 s.cl, .int .i64 s.pa, V.m, V.g, .int .i64 (s.nu + 1), .int .i64 1, .int .i64 (s.vol : Nat), .int .i64 s.c.cl, .int .i64 s.c.nu, .int .i64 s.c.kd, .int .i64 s.c.h1, .int .i64 s.c.h2, .int .i64 s.c.g1, .int .i64 s.c.g2, .string s.c.nm, .string s.c.ot, .int .i64 s.c.m1, .int .i64 s.c.m2, .int .i64 s.c.m3, .string s.c.mt, .bool s.c.fo, .int .i64 s.c.aa, .int .i64 s.c.nn, .int .i64 s.c.tt, .string s.c.bb, .int .i64 s.wait, .int .i64 s.vain, V.o, .int .i64 z.nu, .int .i64 z.co, .int .i64 z.a.co, .int .i64 z.a.h1, .int .i64 z.a.h2, .string z.a.b, .int .i64 z.a.i1, .int .i64 z.a.i2, .int .i64 z.a.i3, .int .i64 z.a.i4, .int .i64 z.a.i5, .int .i64 z.a.i6, .int .i64 z.a.i7, .int .i64 z.a.i8, .slice z.a.na z.a.nl z.a.nc] #[.int .i64 s.cl, .int .i64 (s.nu + 1), .int .i64 c.kd, .int .i64 c.h1, .int .i64 c.h2, .int .i64 c.g1, .int .i64 c.g2, .string c.nm, .string c.ot, .int .i64 c.m1, .int .i64 c.m2, .int .i64 c.m3, .string c.mt, .bool c.fo, .int .i64 c.aa, .int .i64 c.nn, .int .i64 c.tt, .string c.bb]) HT.out ?_
  clear HT
  rintro W7 hT
  have hal := hT.a.lt
  have hcl := hT.c.lt
  have hzl := hT.z.lt
  have a6 : W7.cell? ⟨w.heap.size, 6, none⟩ = some (.int .i64 (s.vol : Nat)) := hT.a.cell 6
  have f6 := hT.a.frozen 6
  have HT2 := Lib.hid (show Sk w (W7.setCell ⟨w.heap.size, 6, none⟩ (.int .i64 (k : Nat))) #[.int .i64 s.cl, .int .i64 s.pa, V.m, V.g, .int .i64 (s.nu + 1), .int .i64 1, .int .i64 (k : Nat), .int .i64 s.c.cl, .int .i64 s.c.nu, .int .i64 s.c.kd, .int .i64 s.c.h1, .int .i64 s.c.h2, .int .i64 s.c.g1, .int .i64 s.c.g2, .string s.c.nm, .string s.c.ot, .int .i64 s.c.m1, .int .i64 s.c.m2, .int .i64 s.c.m3, .string s.c.mt, .bool s.c.fo, .int .i64 s.c.aa, .int .i64 s.c.nn, .int .i64 s.c.tt, .string s.c.bb, .int .i64 s.wait, .int .i64 s.vain, V.o, .int .i64 z.nu, .int .i64 z.co, .int .i64 z.a.co, .int .i64 z.a.h1, .int .i64 z.a.h2, .string z.a.b, .int .i64 z.a.i1, .int .i64 z.a.i2, .int .i64 z.a.i3, .int .i64 z.a.i4, .int .i64 z.a.i5, .int .i64 z.a.i6, .int .i64 z.a.i7, .int .i64 z.a.i8, .slice z.a.na z.a.nl z.a.nc] #[.int .i64 s.cl, .int .i64 (s.nu + 1), .int .i64 c.kd, .int .i64 c.h1, .int .i64 c.h2, .int .i64 c.g1, .int .i64 c.g2, .string c.nm, .string c.ot, .int .i64 c.m1, .int .i64 c.m2, .int .i64 c.m3, .string c.mt, .bool c.fo, .int .i64 c.aa, .int .i64 c.nn, .int .i64 c.tt, .string c.bb] from hT.setA 6 _)
  have HT0 := Lib.hid hT
  clear hT
  go_upto_region 8 with (fail)
  clear HT0 hal hcl hzl a6 f6
  have HT := HT2
  clear HT2
  refine wp_name (fun W8 => Sk w W8 #[.int .i64 s.cl, .int .i64 s.pa, V.m, V.g, .int .i64 (s.nu + 1), .int .i64 1, .int .i64 (k : Nat), .int .i64 s.c.cl, .int .i64 s.c.nu, .int .i64 s.c.kd, .int .i64 s.c.h1, .int .i64 s.c.h2, .int .i64 s.c.g1, .int .i64 s.c.g2, .string s.c.nm, .string s.c.ot, .int .i64 s.c.m1, .int .i64 s.c.m2, .int .i64 s.c.m3, .string s.c.mt, .bool s.c.fo, .int .i64 s.c.aa, .int .i64 s.c.nn, .int .i64 s.c.tt, .string s.c.bb, .int .i64 s.wait, .int .i64 s.vain, V.o, .int .i64 z.nu, .int .i64 z.co, .int .i64 z.a.co, .int .i64 z.a.h1, .int .i64 z.a.h2, .string z.a.b, .int .i64 z.a.i1, .int .i64 z.a.i2, .int .i64 z.a.i3, .int .i64 z.a.i4, .int .i64 z.a.i5, .int .i64 z.a.i6, .int .i64 z.a.i7, .int .i64 z.a.i8, .slice z.a.na z.a.nl z.a.nc] #[.int .i64 s.cl, .int .i64 (s.nu + 1), .int .i64 c.kd, .int .i64 c.h1, .int .i64 c.h2, .int .i64 c.g1, .int .i64 c.g2, .string c.nm, .string c.ot, .int .i64 c.m1, .int .i64 c.m2, .int .i64 c.m3, .string c.mt, .bool c.fo, .int .i64 c.aa, .int .i64 c.nn, .int .i64 c.tt, .string c.bb]) HT.out ?_
  clear HT
  rintro W8 hT
  have hal := hT.a.lt
  have hcl := hT.c.lt
  have hzl := hT.z.lt
  have HT2 := Lib.hid (show Sk w (W8.setRow w.heap.size #[.int .i64 s.cl, .int .i64 s.pa, V.m, V.g, .int .i64 (s.nu + 1), .int .i64 1, .int .i64 (k : Nat), .int .i64 s.cl, .int .i64 (s.nu + 1), .int .i64 c.kd, .int .i64 c.h1, .int .i64 c.h2, .int .i64 c.g1, .int .i64 c.g2, .string c.nm, .string c.ot, .int .i64 c.m1, .int .i64 c.m2, .int .i64 c.m3, .string c.mt, .bool c.fo, .int .i64 c.aa, .int .i64 c.nn, .int .i64 c.tt, .string c.bb, .int .i64 s.wait, .int .i64 s.vain, V.o, .int .i64 z.nu, .int .i64 z.co, .int .i64 z.a.co, .int .i64 z.a.h1, .int .i64 z.a.h2, .string z.a.b, .int .i64 z.a.i1, .int .i64 z.a.i2, .int .i64 z.a.i3, .int .i64 z.a.i4, .int .i64 z.a.i5, .int .i64 z.a.i6, .int .i64 z.a.i7, .int .i64 z.a.i8, .slice z.a.na z.a.nl z.a.nc]) #[.int .i64 s.cl, .int .i64 s.pa, V.m, V.g, .int .i64 (s.nu + 1), .int .i64 1, .int .i64 (k : Nat), .int .i64 s.cl, .int .i64 (s.nu + 1), .int .i64 c.kd, .int .i64 c.h1, .int .i64 c.h2, .int .i64 c.g1, .int .i64 c.g2, .string c.nm, .string c.ot, .int .i64 c.m1, .int .i64 c.m2, .int .i64 c.m3, .string c.mt, .bool c.fo, .int .i64 c.aa, .int .i64 c.nn, .int .i64 c.tt, .string c.bb, .int .i64 s.wait, .int .i64 s.vain, V.o, .int .i64 z.nu, .int .i64 z.co, .int .i64 z.a.co, .int .i64 z.a.h1, .int .i64 z.a.h2, .string z.a.b, .int .i64 z.a.i1, .int .i64 z.a.i2, .int .i64 z.a.i3, .int .i64 z.a.i4, .int .i64 z.a.i5, .int .i64 z.a.i6, .int .i64 z.a.i7, .int .i64 z.a.i8, .slice z.a.na z.a.nl z.a.nc] #[.int .i64 s.cl, .int .i64 (s.nu + 1), .int .i64 c.kd, .int .i64 c.h1, .int .i64 c.h2, .int .i64 c.g1, .int .i64 c.g2, .string c.nm, .string c.ot, .int .i64 c.m1, .int .i64 c.m2, .int .i64 c.m3, .string c.mt, .bool c.fo, .int .i64 c.aa, .int .i64 c.nn, .int .i64 c.tt, .string c.bb] from hT.row _)
  have HT0 := Lib.hid hT
  clear hT
  go_upto_region 9 with (first | (refine wpList_load_box rfl 36 (.tmp 5) rfl _ 0 rfl HT0.out.c [.int .i64 s.cl, .int .i64 (s.nu + 1), .int .i64 c.kd, .int .i64 c.h1, .int .i64 c.h2, .int .i64 c.g1, .int .i64 c.g2, .string c.nm, .string c.ot, .int .i64 c.m1, .int .i64 c.m2, .int .i64 c.m3, .string c.mt, .bool c.fo, .int .i64 c.aa, .int .i64 c.nn, .int .i64 c.tt, .string c.bb] (by kernel_rfl) Try.underlying36 rfl (by kernel_rfl) ?_) | (refine wpList_store_box rfl 36 (.tmp 47) (.tmp 46) rfl rfl _ 7 rfl [.int .i64 s.cl, .int .i64 (s.nu + 1), .int .i64 c.kd, .int .i64 c.h1, .int .i64 c.h2, .int .i64 c.g1, .int .i64 c.g2, .string c.nm, .string c.ot, .int .i64 c.m1, .int .i64 c.m2, .int .i64 c.m3, .string c.mt, .bool c.fo, .int .i64 c.aa, .int .i64 c.nn, .int .i64 c.tt, .string c.bb] rfl HT0.out.a #[.int .i64 s.cl, .int .i64 s.pa, V.m, V.g, .int .i64 (s.nu + 1), .int .i64 1, .int .i64 (k : Nat), .int .i64 s.cl, .int .i64 (s.nu + 1), .int .i64 c.kd, .int .i64 c.h1, .int .i64 c.h2, .int .i64 c.g1, .int .i64 c.g2, .string c.nm, .string c.ot, .int .i64 c.m1, .int .i64 c.m2, .int .i64 c.m3, .string c.mt, .bool c.fo, .int .i64 c.aa, .int .i64 c.nn, .int .i64 c.tt, .string c.bb, .int .i64 s.wait, .int .i64 s.vain, V.o, .int .i64 z.nu, .int .i64 z.co, .int .i64 z.a.co, .int .i64 z.a.h1, .int .i64 z.a.h2, .string z.a.b, .int .i64 z.a.i1, .int .i64 z.a.i2, .int .i64 z.a.i3, .int .i64 z.a.i4, .int .i64 z.a.i5, .int .i64 z.a.i6, .int .i64 z.a.i7, .int .i64 z.a.i8, .slice z.a.na z.a.nl z.a.nc] (by kernel_rfl) (by kernel_rfl) (by kernel_rfl) (by kernel_rfl) ?_))
  clear HT0 hal hcl hzl 
  have HT := HT2
  clear HT2
  refine wp_name (fun W9 => Sk w W9 #[.int .i64 s.cl, .int .i64 s.pa, V.m, V.g, .int .i64 (s.nu + 1), .int .i64 1, .int .i64 (k : Nat), .int .i64 s.cl, .int .i64 (s.nu + 1), .int .i64 c.kd, .int .i64 c.h1, .int .i64 c.h2, .int .i64 c.g1, .int .i64 c.g2, .string c.nm, .string c.ot, .int .i64 c.m1, .int .i64 c.m2, .int .i64 c.m3, .string c.mt, .bool c.fo, .int .i64 c.aa, .int .i64 c.nn, .int .i64 c.tt, .string c.bb, .int .i64 s.wait, .int .i64 s.vain, V.o, .int .i64 z.nu, .int .i64 z.co, .int .i64 z.a.co, .int .i64 z.a.h1, .int .i64 z.a.h2, .string z.a.b, .int .i64 z.a.i1, .int .i64 z.a.i2, .int .i64 z.a.i3, .int .i64 z.a.i4, .int .i64 z.a.i5, .int .i64 z.a.i6, .int .i64 z.a.i7, .int .i64 z.a.i8, .slice z.a.na z.a.nl z.a.nc] #[.int .i64 s.cl, .int .i64 (s.nu + 1), .int .i64 c.kd, .int .i64 c.h1, .int .i64 c.h2, .int .i64 c.g1, .int .i64 c.g2, .string c.nm, .string c.ot, .int .i64 c.m1, .int .i64 c.m2, .int .i64 c.m3, .string c.mt, .bool c.fo, .int .i64 c.aa, .int .i64 c.nn, .int .i64 c.tt, .string c.bb]) HT.out ?_
  clear HT
  rintro W9 hT
  have hal := hT.a.lt
  have hcl := hT.c.lt
  have hzl := hT.z.lt
  have a26 : W9.cell? ⟨w.heap.size, 26, none⟩ = some (.int .i64 s.vain) := hT.a.cell 26
  have f26 := hT.a.frozen 26
  have HT2 := Lib.hid (show Sk w (W9.setCell ⟨w.heap.size, 26, none⟩ (.int .i64 0)) #[.int .i64 s.cl, .int .i64 s.pa, V.m, V.g, .int .i64 (s.nu + 1), .int .i64 1, .int .i64 (k : Nat), .int .i64 s.cl, .int .i64 (s.nu + 1), .int .i64 c.kd, .int .i64 c.h1, .int .i64 c.h2, .int .i64 c.g1, .int .i64 c.g2, .string c.nm, .string c.ot, .int .i64 c.m1, .int .i64 c.m2, .int .i64 c.m3, .string c.mt, .bool c.fo, .int .i64 c.aa, .int .i64 c.nn, .int .i64 c.tt, .string c.bb, .int .i64 s.wait, .int .i64 0, V.o, .int .i64 z.nu, .int .i64 z.co, .int .i64 z.a.co, .int .i64 z.a.h1, .int .i64 z.a.h2, .string z.a.b, .int .i64 z.a.i1, .int .i64 z.a.i2, .int .i64 z.a.i3, .int .i64 z.a.i4, .int .i64 z.a.i5, .int .i64 z.a.i6, .int .i64 z.a.i7, .int .i64 z.a.i8, .slice z.a.na z.a.nl z.a.nc] #[.int .i64 s.cl, .int .i64 (s.nu + 1), .int .i64 c.kd, .int .i64 c.h1, .int .i64 c.h2, .int .i64 c.g1, .int .i64 c.g2, .string c.nm, .string c.ot, .int .i64 c.m1, .int .i64 c.m2, .int .i64 c.m3, .string c.mt, .bool c.fo, .int .i64 c.aa, .int .i64 c.nn, .int .i64 c.tt, .string c.bb] from hT.setA 26 _)
  have HT0 := Lib.hid hT
  clear hT
  go_upto_region 10 with (fail)
  clear HT0 hal hcl hzl a26 f26
  have HT := HT2
  clear HT2
  refine wp_name (fun W10 => Sk w W10 #[.int .i64 s.cl, .int .i64 s.pa, V.m, V.g, .int .i64 (s.nu + 1), .int .i64 1, .int .i64 (k : Nat), .int .i64 s.cl, .int .i64 (s.nu + 1), .int .i64 c.kd, .int .i64 c.h1, .int .i64 c.h2, .int .i64 c.g1, .int .i64 c.g2, .string c.nm, .string c.ot, .int .i64 c.m1, .int .i64 c.m2, .int .i64 c.m3, .string c.mt, .bool c.fo, .int .i64 c.aa, .int .i64 c.nn, .int .i64 c.tt, .string c.bb, .int .i64 s.wait, .int .i64 0, V.o, .int .i64 z.nu, .int .i64 z.co, .int .i64 z.a.co, .int .i64 z.a.h1, .int .i64 z.a.h2, .string z.a.b, .int .i64 z.a.i1, .int .i64 z.a.i2, .int .i64 z.a.i3, .int .i64 z.a.i4, .int .i64 z.a.i5, .int .i64 z.a.i6, .int .i64 z.a.i7, .int .i64 z.a.i8, .slice z.a.na z.a.nl z.a.nc] #[.int .i64 s.cl, .int .i64 (s.nu + 1), .int .i64 c.kd, .int .i64 c.h1, .int .i64 c.h2, .int .i64 c.g1, .int .i64 c.g2, .string c.nm, .string c.ot, .int .i64 c.m1, .int .i64 c.m2, .int .i64 c.m3, .string c.mt, .bool c.fo, .int .i64 c.aa, .int .i64 c.nn, .int .i64 c.tt, .string c.bb]) HT.out ?_
  clear HT
  rintro W10 hT
  have hal := hT.a.lt
  have hcl := hT.c.lt
  have hzl := hT.z.lt
  have HT := Lib.hid hT
  clear hT
  have HTA := Lib.hid (show Box W10 w.heap.size 46 (rcs s2 V 1 z) from by rw [HS2.out]; exact HT.out.a)
  go_wp2_with (refine wpList_load_box rfl 46 (.tmp 3) rfl _ 0 rfl HTA.out (rcs s2 V 1 z).toList (by kernel_rfl) Try.underlying46 rfl (by kernel_rfl) ?_)
  have hr := HR.out.below HT.out.b
  have HR1 := Lib.hid (show Rt W10 V s2 from by rw [HS2.out]; exact ⟨hr.rm, hr.rg, hr.ro⟩)
  clear hr
  refine (rask_any z 1 HR1.out HF2.out HL2.out).mono ?_
  rintro e w9 ⟨V2, rfl, hR9, hT9⟩
  have HZ9 := Lib.hid (HT.out.z.below hT9.below HT.out.z.lt)
  have B9 := Lib.hid (HT.out.b.trans (hT9.below.mono HT.out.b.size))
  have HONE9 := Lib.hid (one_rcs hR9 1 z)
  have HR9 := Lib.hid hR9
  have HT9 := Lib.hid hT9
  have hal9 := HZ9.out.lt
  clear hR9 hT9 hal hcl hzl
  go_wp2_with (refine wpList_store_box rfl 46 (.tmp 6) (.tmp 50) rfl rfl _ 0 rfl (rcs (askS s2) V2 1 z).toList rfl HZ9.out (rcs (askS s2) V2 1 z) (by kernel_rfl) (by kernel_rfl) (by kernel_rfl) HONE9.out ?_)
  have BF := Below.setRow B9.out (g := w.heap.size + 1 + 1) (by omega) (rcs (askS s2) V2 1 z)
  refine ret_ct Try.results10 rfl rfl rfl ((HZ9.out.setRow _).load Try.underlying46 rfl (by kernel_rfl)) ?_
  rw [HST.out]
  have hph2 : phS (askS s2) = 1 := by rw [HS2.out]; rfl
  refine ⟨V2, z, by rw [hph2]; rfl, ?_, Rt.final HR.out HR9.out HT9.out.m (by rw [HS2.out]; rfl) BF HZ9.out, ⟨BF, HT9.out.m, fun k hk => ?_, fun k hk => ?_⟩⟩
  · intro r hr
    have h1 : s2.done = [r] := hr
    rw [HD2.out] at h1
    cases h1
  · rcases HT9.out.g k hk with h1 | h1
    · exact .inl h1
    · exact .inr (Nat.le_trans HT.out.b.size h1)
  · rcases HT9.out.o k hk with h1 | h1
    · exact .inl h1
    · exact .inr (Nat.le_trans HT.out.b.size h1)
theorem rstart_any (z : Rs) (v : Int) (c : Cl) (hz : ∀ r, s.done = [r] → z = r) (h : Rt w V s) (ho : Okay s) (hl : s.out.length ≤ 500) (hnu : s.nu < 100000) : Calls Try.prog 10 #[.agg (rcs s V (phS s) z), .int .i64 v, .agg (cc c)] w (StartPost w V (startS s v c) (startB s v c)) := by
  cases hy : startB s v c
  · have hs : startS s v c = s := by rw [startS, hy]; rfl
    rw [hs]
    have key : Calls Try.prog 10 #[.agg (rcs s V (phS s) z), .int .i64 v, .agg (cc c)] w fun e w' => e = .returned (.tuple #[.agg (rcs s V (phS s) z), .bool false]) ∧ Below w.heap.size w w' := by
      by_cases hp : phS s = 0
      · rw [hp]
        by_cases h0 : v < 0
        · exact rstart_neg z v c h h0
        · by_cases h1 : (s.many.length : Int) ≤ v
          · exact rstart_far z v c h h0 h1
          · by_cases h3 : c.kd < 1
            · exact rstart_low z v c h h0 h1 h3
            · by_cases h4 : 11 < c.kd
              · exact rstart_high z v c h h0 h1 h3 h4
              · exfalso
                have hbd : s.busy = false ∧ s.done = [] := by
                  unfold phS at hp
                  cases hb : s.busy
                  · rw [hb] at hp
                    simp only [Bool.false_eq_true, if_false] at hp
                    split at hp
                    · rename_i hd; exact ⟨rfl, by simpa using hd⟩
                    · cases hp
                  · rw [hb] at hp; cases hp
                rw [start_cond, hbd.1, hbd.2] at hy
                have ht : thereB s v = true := by simp only [thereB, Bool.and_eq_true, decide_eq_true_eq]; omega
                rw [ht] at hy
                simp [h3, h4] at hy
      · exact rstart_busy z (phS s) v c h hp
    refine key.mono ?_
    rintro e w' ⟨rfl, b⟩
    exact ⟨V, z, rfl, hz, h.below b, RTo.same b⟩
  · have hv : 0 ≤ v := by
      simp only [startB, thereB, Bool.and_eq_true, decide_eq_true_eq] at hy
      exact hy.1.1.2.1
    obtain ⟨k, rfl⟩ := Int.eq_ofNat_of_zero_le hv
    exact rstart_yes z k c hz h ho hl hnu hy
end Go.Proofs.Ytlkilkndjfcejaa
