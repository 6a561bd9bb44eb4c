/- porter: the document's on. Conditions: the client is in its bounds. -/
import Derived.Test.YtlkilkndjfcejaaRb
import Derived.Deep.Cut
namespace Go.Proofs.Ytlkilkndjfcejaa
open Go Go.RowKit
set_option linter.unusedVariables false
set_option linter.unusedSimpArgs false
variable {w w' : World} {s s' : St} {V V' : Vr}

theorem one_rcs (h : Rt w V s) (ph : Int) (z : Rs) : (rcs s V ph z).toList.all (·.oneCell') = true := by
  obtain ⟨Vm, Vg, Vo⟩ := V
  obtain ⟨am, lm, cm, hvm, _⟩ := h.rm
  have hvm2 : Vm = .slice am lm cm := hvm
  subst hvm2
  have hro : w.ownsRow 0 106 20 Vo s.out.length (s.out.flatMap ql) := h.ro
  have hrg : w.ownsRow 0 3 1 Vg s.guess.length (s.guess.map iv) := h.rg
  obtain ⟨ag, cg, rfl, _⟩ := own_shape hrg
  obtain ⟨ao, co, rfl, _⟩ := own_shape hro
  rfl
theorem Rt.many (h : Rt w V s) (hf : Fit s) : ∃ b off cap, V.m = .slice (some ⟨b, off, none⟩) s.many.length cap ∧ b < w.heap.size ∧ w.cell? ⟨b, off + s.vol, none⟩ = some (.int .i64 (mv s)) := by
  obtain ⟨a, len, cap, e, hi⟩ := h.rm
  obtain ⟨b, off, rfl, hb, hc⟩ := hi.at_ s.vol (mv s) hf.mat
  exact ⟨b, off, cap, by rw [e, hi.1], hb, hc⟩
set_option maxRecDepth 100000 in
set_option maxHeartbeats 8000000 in
theorem ron_end (z : Rs) (ph : Int) (h : Rt w V s) (hf : Fit s) (hv : 3 * mv s ≤ s.vain + 1) : Calls Try.prog 32 #[.agg (rcs s V ph z)] w fun e w' => e = .returned (.agg (rcs (onS s) V 2 ⟨s.nu, 210, zeroAn⟩)) ∧ Below w.heap.size w w' := by
  have hon : onS s = endS { s with vain := s.vain + 1 } ⟨0, 210, zeroAn⟩ := by rw [onS, if_pos hv]
  rw [hon]
  obtain ⟨bb, off, cap, hvm, hbb, d0⟩ := h.many hf
  have HA := Lib.hid (box1 w #[.int .i64 s.cl, .int .i64 s.pa, V.m, V.g, .int .i64 s.nu, .int .i64 (ph), .int .i64 (s.vol : Nat), .int .i64 s.c.cl, .int .i64 s.c.nu, .int .i64 s.c.kd, .int .i64 s.c.h1, .int .i64 s.c.h2, .int .i64 s.c.g1, .int .i64 s.c.g2, .string s.c.nm, .string s.c.ot, .int .i64 s.c.m1, .int .i64 s.c.m2, .int .i64 s.c.m3, .string s.c.mt, .bool s.c.fo, .int .i64 s.c.aa, .int .i64 s.c.nn, .int .i64 s.c.tt, .string s.c.bb, .int .i64 s.wait, .int .i64 s.vain, V.o, .int .i64 z.nu, .int .i64 z.co, .int .i64 z.a.co, .int .i64 z.a.h1, .int .i64 z.a.h2, .string z.a.b, .int .i64 z.a.i1, .int .i64 z.a.i2, .int .i64 z.a.i3, .int .i64 z.a.i4, .int .i64 z.a.i5, .int .i64 z.a.i6, .int .i64 z.a.i7, .int .i64 z.a.i8, .slice z.a.na z.a.nl z.a.nc] 46 46 #[.int .i64 0, .int .i64 0, .slice none 0 0, .slice none 0 0, .int .i64 0, .int .i64 0, .int .i64 0, .int .i64 0, .int .i64 0, .int .i64 0, .int .i64 0, .int .i64 0, .int .i64 0, .int .i64 0, .string ⟨#[]⟩, .string ⟨#[]⟩, .int .i64 0, .int .i64 0, .int .i64 0, .string ⟨#[]⟩, .bool false, .int .i64 0, .int .i64 0, .int .i64 0, .string ⟨#[]⟩, .int .i64 0, .int .i64 0, .slice none 0 0, .int .i64 0, .int .i64 0, .int .i64 0, .int .i64 0, .int .i64 0, .string ⟨#[]⟩, .int .i64 0, .int .i64 0, .int .i64 0, .int .i64 0, .int .i64 0, .int .i64 0, .int .i64 0, .int .i64 0, .slice none 0 0])
  have HZ := Lib.hid (box2 w (.cells #[.int .i64 s.cl, .int .i64 s.pa, V.m, V.g, .int .i64 s.nu, .int .i64 (ph), .int .i64 (s.vol : Nat), .int .i64 s.c.cl, .int .i64 s.c.nu, .int .i64 s.c.kd, .int .i64 s.c.h1, .int .i64 s.c.h2, .int .i64 s.c.g1, .int .i64 s.c.g2, .string s.c.nm, .string s.c.ot, .int .i64 s.c.m1, .int .i64 s.c.m2, .int .i64 s.c.m3, .string s.c.mt, .bool s.c.fo, .int .i64 s.c.aa, .int .i64 s.c.nn, .int .i64 s.c.tt, .string s.c.bb, .int .i64 s.wait, .int .i64 s.vain, V.o, .int .i64 z.nu, .int .i64 z.co, .int .i64 z.a.co, .int .i64 z.a.h1, .int .i64 z.a.h2, .string z.a.b, .int .i64 z.a.i1, .int .i64 z.a.i2, .int .i64 z.a.i3, .int .i64 z.a.i4, .int .i64 z.a.i5, .int .i64 z.a.i6, .int .i64 z.a.i7, .int .i64 z.a.i8, .slice z.a.na z.a.nl z.a.nc] 46) #[.int .i64 0, .int .i64 0, .slice none 0 0, .slice none 0 0, .int .i64 0, .int .i64 0, .int .i64 0, .int .i64 0, .int .i64 0, .int .i64 0, .int .i64 0, .int .i64 0, .int .i64 0, .int .i64 0, .string ⟨#[]⟩, .string ⟨#[]⟩, .int .i64 0, .int .i64 0, .int .i64 0, .string ⟨#[]⟩, .bool false, .int .i64 0, .int .i64 0, .int .i64 0, .string ⟨#[]⟩, .int .i64 0, .int .i64 0, .slice none 0 0, .int .i64 0, .int .i64 0, .int .i64 0, .int .i64 0, .int .i64 0, .string ⟨#[]⟩, .int .i64 0, .int .i64 0, .int .i64 0, .int .i64 0, .int .i64 0, .int .i64 0, .int .i64 0, .int .i64 0, .slice none 0 0] 46)
  have B0 := Lib.hid (((Below.refl w.heap.size w).alloc (Nat.le_refl _) (.cells #[.int .i64 s.cl, .int .i64 s.pa, V.m, V.g, .int .i64 s.nu, .int .i64 (ph), .int .i64 (s.vol : Nat), .int .i64 s.c.cl, .int .i64 s.c.nu, .int .i64 s.c.kd, .int .i64 s.c.h1, .int .i64 s.c.h2, .int .i64 s.c.g1, .int .i64 s.c.g2, .string s.c.nm, .string s.c.ot, .int .i64 s.c.m1, .int .i64 s.c.m2, .int .i64 s.c.m3, .string s.c.mt, .bool s.c.fo, .int .i64 s.c.aa, .int .i64 s.c.nn, .int .i64 s.c.tt, .string s.c.bb, .int .i64 s.wait, .int .i64 s.vain, V.o, .int .i64 z.nu, .int .i64 z.co, .int .i64 z.a.co, .int .i64 z.a.h1, .int .i64 z.a.h2, .string z.a.b, .int .i64 z.a.i1, .int .i64 z.a.i2, .int .i64 z.a.i3, .int .i64 z.a.i4, .int .i64 z.a.i5, .int .i64 z.a.i6, .int .i64 z.a.i7, .int .i64 z.a.i8, .slice z.a.na z.a.nl z.a.nc] 46)).alloc (by simp) (.cells #[.int .i64 0, .int .i64 0, .slice none 0 0, .slice none 0 0, .int .i64 0, .int .i64 0, .int .i64 0, .int .i64 0, .int .i64 0, .int .i64 0, .int .i64 0, .int .i64 0, .int .i64 0, .int .i64 0, .string ⟨#[]⟩, .string ⟨#[]⟩, .int .i64 0, .int .i64 0, .int .i64 0, .string ⟨#[]⟩, .bool false, .int .i64 0, .int .i64 0, .int .i64 0, .string ⟨#[]⟩, .int .i64 0, .int .i64 0, .slice none 0 0, .int .i64 0, .int .i64 0, .int .i64 0, .int .i64 0, .int .i64 0, .string ⟨#[]⟩, .int .i64 0, .int .i64 0, .int .i64 0, .int .i64 0, .int .i64 0, .int .i64 0, .int .i64 0, .int .i64 0, .slice none 0 0] 46))
  have HONE := Lib.hid (one_rcs (s := endS { s with vain := s.vain + 1 } ⟨0, 210, zeroAn⟩) (V := V) ⟨h.rm, h.rg, h.ro⟩ 2 ⟨s.nu, 210, zeroAn⟩)
  have hv0 := hf.vain0
  have hv1 := hf.vain1
  have hm := hf.mv_in
  obtain ⟨m, hmm⟩ : ∃ m, m = mv s := ⟨_, rfl⟩
  rw [← hmm] at d0 hm hv
  obtain ⟨m0, m1⟩ := hm
  have h3 : IntKind.i64.wrap (3 * m) = 3 * m := by rw [IntKind.wrap_i64]; omega
  have hvl : s.vol < s.many.length := hf.vol
  have HD := Lib.hid d0
  have HVM := Lib.hid hvm
  clear h hf hon hmm d0 hvm
  go_enter Try.func32, Try.ntmps32
  go_upto_region 1 with (fail)
  generalize (w.alloc (.cells #[.int .i64 s.cl, .int .i64 s.pa, V.m, V.g, .int .i64 s.nu, .int .i64 (ph), .int .i64 (s.vol : Nat), .int .i64 s.c.cl, .int .i64 s.c.nu, .int .i64 s.c.kd, .int .i64 s.c.h1, .int .i64 s.c.h2, .int .i64 s.c.g1, .int .i64 s.c.g2, .string s.c.nm, .string s.c.ot, .int .i64 s.c.m1, .int .i64 s.c.m2, .int .i64 s.c.m3, .string s.c.mt, .bool s.c.fo, .int .i64 s.c.aa, .int .i64 s.c.nn, .int .i64 s.c.tt, .string s.c.bb, .int .i64 s.wait, .int .i64 s.vain, V.o, .int .i64 z.nu, .int .i64 z.co, .int .i64 z.a.co, .int .i64 z.a.h1, .int .i64 z.a.h2, .string z.a.b, .int .i64 z.a.i1, .int .i64 z.a.i2, .int .i64 z.a.i3, .int .i64 z.a.i4, .int .i64 z.a.i5, .int .i64 z.a.i6, .int .i64 z.a.i7, .int .i64 z.a.i8, .slice z.a.na z.a.nl z.a.nc] 46)).alloc (.cells #[.int .i64 0, .int .i64 0, .slice none 0 0, .slice none 0 0, .int .i64 0, .int .i64 0, .int .i64 0, .int .i64 0, .int .i64 0, .int .i64 0, .int .i64 0, .int .i64 0, .int .i64 0, .int .i64 0, .string ⟨#[]⟩, .string ⟨#[]⟩, .int .i64 0, .int .i64 0, .int .i64 0, .string ⟨#[]⟩, .bool false, .int .i64 0, .int .i64 0, .int .i64 0, .string ⟨#[]⟩, .int .i64 0, .int .i64 0, .slice none 0 0, .int .i64 0, .int .i64 0, .int .i64 0, .int .i64 0, .int .i64 0, .string ⟨#[]⟩, .int .i64 0, .int .i64 0, .int .i64 0, .int .i64 0, .int .i64 0, .int .i64 0, .int .i64 0, .int .i64 0, .slice none 0 0] 46) = W2 at HA HZ B0 ⊢
  have a26 : W2.cell? ⟨w.heap.size, 26, none⟩ = some (.int .i64 s.vain) := HA.out.cell 26
  have f26 := HA.out.frozen 26
  have hal := HA.out.lt
  have HA1 := Lib.hid (show Box (W2.setCell ⟨w.heap.size, 26, none⟩ (.int .i64 (s.vain + 1))) w.heap.size 46 #[.int .i64 s.cl, .int .i64 s.pa, V.m, V.g, .int .i64 s.nu, .int .i64 (ph), .int .i64 (s.vol : Nat), .int .i64 s.c.cl, .int .i64 s.c.nu, .int .i64 s.c.kd, .int .i64 s.c.h1, .int .i64 s.c.h2, .int .i64 s.c.g1, .int .i64 s.c.g2, .string s.c.nm, .string s.c.ot, .int .i64 s.c.m1, .int .i64 s.c.m2, .int .i64 s.c.m3, .string s.c.mt, .bool s.c.fo, .int .i64 s.c.aa, .int .i64 s.c.nn, .int .i64 s.c.tt, .string s.c.bb, .int .i64 s.wait, .int .i64 (s.vain + 1), V.o, .int .i64 z.nu, .int .i64 z.co, .int .i64 z.a.co, .int .i64 z.a.h1, .int .i64 z.a.h2, .string z.a.b, .int .i64 z.a.i1, .int .i64 z.a.i2, .int .i64 z.a.i3, .int .i64 z.a.i4, .int .i64 z.a.i5, .int .i64 z.a.i6, .int .i64 z.a.i7, .int .i64 z.a.i8, .slice z.a.na z.a.nl z.a.nc] from HA.out.set 26 _)
  have HZ1 := Lib.hid (HZ.out.set_other (p := ⟨w.heap.size, 26, none⟩) (by show w.heap.size + 1 ≠ w.heap.size; omega) (.int .i64 (s.vain + 1)))
  have B1 := Lib.hid (B0.out.setCell (p := ⟨w.heap.size, 26, none⟩) (Nat.le_refl _) (.int .i64 (s.vain + 1)))
  clear HA HZ B0
  go_upto_region 2 with (fail)
  generalize W2.setCell ⟨w.heap.size, 26, none⟩ (.int .i64 (s.vain + 1)) = W3 at HA1 HZ1 B1 ⊢
  clear a26 f26 hal
  have b2 : W3.cell? ⟨w.heap.size, 2, none⟩ = some V.m := HA1.out.cell 2
  rw [HVM.out] at b2
  have b6 : W3.cell? ⟨w.heap.size, 6, none⟩ = some (.int .i64 (s.vol : Nat)) := HA1.out.cell 6
  have b26 : W3.cell? ⟨w.heap.size, 26, none⟩ = some (.int .i64 (s.vain + 1)) := HA1.out.cell 26
  have b5 : W3.cell? ⟨w.heap.size, 5, none⟩ = some (.int .i64 ph) := HA1.out.cell 5
  have f5 := HA1.out.frozen 5
  have hal := HA1.out.lt
  have d1 : W3.cell? ⟨bb, off + s.vol, none⟩ = some (.int .i64 m) := (B1.out.cell (p := ⟨bb, off + s.vol, none⟩) hbb).trans HD.out
  have hbl := World.block_lt_of_cell? _ _ d1
  have HA2 := Lib.hid (show Box (W3.setCell ⟨w.heap.size, 5, none⟩ (.int .i64 2)) w.heap.size 46 #[.int .i64 s.cl, .int .i64 s.pa, V.m, V.g, .int .i64 s.nu, .int .i64 2, .int .i64 (s.vol : Nat), .int .i64 s.c.cl, .int .i64 s.c.nu, .int .i64 s.c.kd, .int .i64 s.c.h1, .int .i64 s.c.h2, .int .i64 s.c.g1, .int .i64 s.c.g2, .string s.c.nm, .string s.c.ot, .int .i64 s.c.m1, .int .i64 s.c.m2, .int .i64 s.c.m3, .string s.c.mt, .bool s.c.fo, .int .i64 s.c.aa, .int .i64 s.c.nn, .int .i64 s.c.tt, .string s.c.bb, .int .i64 s.wait, .int .i64 (s.vain + 1), V.o, .int .i64 z.nu, .int .i64 z.co, .int .i64 z.a.co, .int .i64 z.a.h1, .int .i64 z.a.h2, .string z.a.b, .int .i64 z.a.i1, .int .i64 z.a.i2, .int .i64 z.a.i3, .int .i64 z.a.i4, .int .i64 z.a.i5, .int .i64 z.a.i6, .int .i64 z.a.i7, .int .i64 z.a.i8, .slice z.a.na z.a.nl z.a.nc] from HA1.out.set 5 _)
  have HZ2 := Lib.hid (HZ1.out.set_other (p := ⟨w.heap.size, 5, none⟩) (by show w.heap.size + 1 ≠ w.heap.size; omega) (.int .i64 2))
  have B2 := Lib.hid (B1.out.setCell (p := ⟨w.heap.size, 5, none⟩) (Nat.le_refl _) (.int .i64 2))
  clear HA1 HZ1 B1
  go_upto_region 5 with (fail)
  generalize W3.setCell ⟨w.heap.size, 5, none⟩ (.int .i64 2) = W4 at HA2 HZ2 B2 ⊢
  clear b2 b6 b26 b5 f5 hal d1 hbl
  have b4 : W4.cell? ⟨w.heap.size, 4, none⟩ = some (.int .i64 s.nu) := HA2.out.cell 4
  have hal := HA2.out.lt
  have HA3 := Lib.hid (HA2.out.setRow #[.int .i64 s.cl, .int .i64 s.pa, V.m, V.g, .int .i64 s.nu, .int .i64 2, .int .i64 (s.vol : Nat), .int .i64 s.c.cl, .int .i64 s.c.nu, .int .i64 s.c.kd, .int .i64 s.c.h1, .int .i64 s.c.h2, .int .i64 s.c.g1, .int .i64 s.c.g2, .string s.c.nm, .string s.c.ot, .int .i64 s.c.m1, .int .i64 s.c.m2, .int .i64 s.c.m3, .string s.c.mt, .bool s.c.fo, .int .i64 s.c.aa, .int .i64 s.c.nn, .int .i64 s.c.tt, .string s.c.bb, .int .i64 s.wait, .int .i64 (s.vain + 1), V.o, .int .i64 s.nu, .int .i64 210, .int .i64 0, .int .i64 0, .int .i64 0, .string ⟨#[]⟩, .int .i64 0, .int .i64 0, .int .i64 0, .int .i64 0, .int .i64 0, .int .i64 0, .int .i64 0, .int .i64 0, .slice none 0 0])
  have HZ3 := Lib.hid (HZ2.out.setRow_other #[.int .i64 s.cl, .int .i64 s.pa, V.m, V.g, .int .i64 s.nu, .int .i64 2, .int .i64 (s.vol : Nat), .int .i64 s.c.cl, .int .i64 s.c.nu, .int .i64 s.c.kd, .int .i64 s.c.h1, .int .i64 s.c.h2, .int .i64 s.c.g1, .int .i64 s.c.g2, .string s.c.nm, .string s.c.ot, .int .i64 s.c.m1, .int .i64 s.c.m2, .int .i64 s.c.m3, .string s.c.mt, .bool s.c.fo, .int .i64 s.c.aa, .int .i64 s.c.nn, .int .i64 s.c.tt, .string s.c.bb, .int .i64 s.wait, .int .i64 (s.vain + 1), V.o, .int .i64 s.nu, .int .i64 210, .int .i64 0, .int .i64 0, .int .i64 0, .string ⟨#[]⟩, .int .i64 0, .int .i64 0, .int .i64 0, .int .i64 0, .int .i64 0, .int .i64 0, .int .i64 0, .int .i64 0, .slice none 0 0] (show w.heap.size + 1 ≠ w.heap.size by omega))
  have B3 := Lib.hid (Below.setRow B2.out (g := w.heap.size) (Nat.le_refl _) #[.int .i64 s.cl, .int .i64 s.pa, V.m, V.g, .int .i64 s.nu, .int .i64 2, .int .i64 (s.vol : Nat), .int .i64 s.c.cl, .int .i64 s.c.nu, .int .i64 s.c.kd, .int .i64 s.c.h1, .int .i64 s.c.h2, .int .i64 s.c.g1, .int .i64 s.c.g2, .string s.c.nm, .string s.c.ot, .int .i64 s.c.m1, .int .i64 s.c.m2, .int .i64 s.c.m3, .string s.c.mt, .bool s.c.fo, .int .i64 s.c.aa, .int .i64 s.c.nn, .int .i64 s.c.tt, .string s.c.bb, .int .i64 s.wait, .int .i64 (s.vain + 1), V.o, .int .i64 s.nu, .int .i64 210, .int .i64 0, .int .i64 0, .int .i64 0, .string ⟨#[]⟩, .int .i64 0, .int .i64 0, .int .i64 0, .int .i64 0, .int .i64 0, .int .i64 0, .int .i64 0, .int .i64 0, .slice none 0 0])
  go_wp2_with (first | (refine wpList_store_box rfl 44 (.tmp 24) (.tmp 23) rfl rfl _ 28 rfl [.int .i64 s.nu, .int .i64 210, .int .i64 0, .int .i64 0, .int .i64 0, .string ⟨#[]⟩, .int .i64 0, .int .i64 0, .int .i64 0, .int .i64 0, .int .i64 0, .int .i64 0, .int .i64 0, .int .i64 0, .slice none 0 0] rfl HA2.out #[.int .i64 s.cl, .int .i64 s.pa, V.m, V.g, .int .i64 s.nu, .int .i64 2, .int .i64 (s.vol : Nat), .int .i64 s.c.cl, .int .i64 s.c.nu, .int .i64 s.c.kd, .int .i64 s.c.h1, .int .i64 s.c.h2, .int .i64 s.c.g1, .int .i64 s.c.g2, .string s.c.nm, .string s.c.ot, .int .i64 s.c.m1, .int .i64 s.c.m2, .int .i64 s.c.m3, .string s.c.mt, .bool s.c.fo, .int .i64 s.c.aa, .int .i64 s.c.nn, .int .i64 s.c.tt, .string s.c.bb, .int .i64 s.wait, .int .i64 (s.vain + 1), V.o, .int .i64 s.nu, .int .i64 210, .int .i64 0, .int .i64 0, .int .i64 0, .string ⟨#[]⟩, .int .i64 0, .int .i64 0, .int .i64 0, .int .i64 0, .int .i64 0, .int .i64 0, .int .i64 0, .int .i64 0, .slice none 0 0] (by kernel_rfl) (by kernel_rfl) (by kernel_rfl) (by kernel_rfl) ?_) | (refine wpList_load_box rfl 46 (.tmp 1) rfl _ 0 rfl HA3.out (rcs (endS { s with vain := s.vain + 1 } ⟨0, 210, zeroAn⟩) V 2 ⟨s.nu, 210, zeroAn⟩).toList (by kernel_rfl) Try.underlying46 rfl (by kernel_rfl) ?_) | (refine wpList_store_box rfl 46 (.tmp 2) (.tmp 25) rfl rfl _ 0 rfl (rcs (endS { s with vain := s.vain + 1 } ⟨0, 210, zeroAn⟩) V 2 ⟨s.nu, 210, zeroAn⟩).toList rfl HZ3.out (rcs (endS { s with vain := s.vain + 1 } ⟨0, 210, zeroAn⟩) V 2 ⟨s.nu, 210, zeroAn⟩) (by kernel_rfl) (by kernel_rfl) (by kernel_rfl) HONE.out ?_))
  exact ret_c Try.results32 rfl rfl ((HZ3.out.setRow _).load Try.underlying46 rfl (by kernel_rfl)) ⟨rfl, Below.setRow B3.out (by omega) _⟩
end Go.Proofs.Ytlkilkndjfcejaa
