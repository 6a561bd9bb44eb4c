/- porter: the document's Take, of a reply that ends a call. Conditions: the client is in its bounds. -/
import Derived.Test.YtlkilkndjfcejaaTb
namespace Go.Proofs.Ytlkilkndjfcejaa
open Go Go.RowKit
set_option linter.unusedVariables false
set_option linter.unusedSimpArgs false
variable {w w' : World} {s s' : St} {V V' : Vr}

set_option maxRecDepth 100000 in
set_option maxHeartbeats 8000000 in
theorem rtake_ok (z : Rs) (r : Rp) (h : Rt w V s) (ho : Okay s) (hm : meantB s r = true) (hc : r.co = 0) : Calls Try.prog 14 #[.agg (rcs s V (phS s) z), .agg (rp r)] w (Gives w V (takeS s r) (phS (takeS s r))) := by
  obtain ⟨m1, m2, m3, m4, m5⟩ := meant_all hm
  have hf := ho.fit
  obtain ⟨b1, b2, b3⟩ := ho.busy m1
  have hp1 : phS s = 1 := by rw [phS, m1]; rfl
  rw [hp1]
  have HONE := Lib.hid (one_rcs h (1) z)
  have HT := Lib.hid (Tk.new w #[.int .i64 s.cl, .int .i64 s.pa, V.m, V.g, .int .i64 s.nu, .int .i64 (1), .int .i64 (s.vol : Nat), .int .i64 s.c.cl, .int .i64 s.c.nu, .int .i64 s.c.kd, .int .i64 s.c.h1, .int .i64 s.c.h2, .int .i64 s.c.g1, .int .i64 s.c.g2, .string s.c.nm, .string s.c.ot, .int .i64 s.c.m1, .int .i64 s.c.m2, .int .i64 s.c.m3, .string s.c.mt, .bool s.c.fo, .int .i64 s.c.aa, .int .i64 s.c.nn, .int .i64 s.c.tt, .string s.c.bb, .int .i64 s.wait, .int .i64 s.vain, V.o, .int .i64 z.nu, .int .i64 z.co, .int .i64 z.a.co, .int .i64 z.a.h1, .int .i64 z.a.h2, .string z.a.b, .int .i64 z.a.i1, .int .i64 z.a.i2, .int .i64 z.a.i3, .int .i64 z.a.i4, .int .i64 z.a.i5, .int .i64 z.a.i6, .int .i64 z.a.i7, .int .i64 z.a.i8, .slice z.a.na z.a.nl z.a.nc] r)
  obtain ⟨g, cg, hvg, hgl, hvl, hgc⟩ := own_at1r h.rg s.vol (gv s) hf.gat
  obtain ⟨x, hx⟩ : ∃ x, x = gv s := ⟨_, rfl⟩
  rw [← hx] at hgc
  have HGC := Lib.hid hgc
  have HVG := Lib.hid hvg
  have HX := Lib.hid hx
  have k1 : (r.vol != ((s.vol : Nat) : Int)) = false := by simpa using m2
  have k2 : (r.cl != s.cl) = false := by simpa using m4
  have k3 : (r.nu != s.nu) = false := by simpa using m5
  have k4 : (r.srv != x) = false := by rw [hx]; simpa using m3
  have HR := Lib.hid h
  have HF := Lib.hid hf
  have HB := Lib.hid m1
  have HD := Lib.hid b3
  have HP := Lib.hid hp1
  have HC := Lib.hid hc
  have HM := Lib.hid hm
  have HV := Lib.hid hvg
  clear h hf ho hm hvg hx hgc m1 m2 m3 m4 m5 b2 b3 hp1 hc
  go_enter Try.func14, Try.ntmps14
  go_upto_region 1 with (fail)
  refine wp_name (fun W3 => Tk w W3 #[.int .i64 s.cl, .int .i64 s.pa, V.m, V.g, .int .i64 s.nu, .int .i64 (1), .int .i64 (s.vol : Nat), .int .i64 s.c.cl, .int .i64 s.c.nu, .int .i64 s.c.kd, .int .i64 s.c.h1, .int .i64 s.c.h2, .int .i64 s.c.g1, .int .i64 s.c.g2, .string s.c.nm, .string s.c.ot, .int .i64 s.c.m1, .int .i64 s.c.m2, .int .i64 s.c.m3, .string s.c.mt, .bool s.c.fo, .int .i64 s.c.aa, .int .i64 s.c.nn, .int .i64 s.c.tt, .string s.c.bb, .int .i64 s.wait, .int .i64 s.vain, V.o, .int .i64 z.nu, .int .i64 z.co, .int .i64 z.a.co, .int .i64 z.a.h1, .int .i64 z.a.h2, .string z.a.b, .int .i64 z.a.i1, .int .i64 z.a.i2, .int .i64 z.a.i3, .int .i64 z.a.i4, .int .i64 z.a.i5, .int .i64 z.a.i6, .int .i64 z.a.i7, .int .i64 z.a.i8, .slice z.a.na z.a.nl z.a.nc] r) HT.out ?_
  clear HT
  rintro W3 hT
  have a5 : W3.cell? ⟨w.heap.size, 5, none⟩ = some (.int .i64 (1)) := hT.a.cell 5
  have a6 : W3.cell? ⟨w.heap.size, 6, none⟩ = some (.int .i64 (s.vol : Nat)) := hT.a.cell 6
  have a0 : W3.cell? ⟨w.heap.size, 0, none⟩ = some (.int .i64 s.cl) := hT.a.cell 0
  have a4 : W3.cell? ⟨w.heap.size, 4, none⟩ = some (.int .i64 s.nu) := hT.a.cell 4
  have a3 : W3.cell? ⟨w.heap.size, 3, none⟩ = some V.g := hT.a.cell 3
  rw [HVG.out] at a3
  have c0 : W3.cell? ⟨w.heap.size + 1, 0, none⟩ = some (.int .i64 r.vol) := hT.r.cell 0
  have c1 : W3.cell? ⟨w.heap.size + 1, 1, none⟩ = some (.int .i64 r.srv) := hT.r.cell 1
  have c2 : W3.cell? ⟨w.heap.size + 1, 2, none⟩ = some (.int .i64 r.cl) := hT.r.cell 2
  have c3 : W3.cell? ⟨w.heap.size + 1, 3, none⟩ = some (.int .i64 r.nu) := hT.r.cell 3
  have gc : W3.cell? ⟨g, s.vol, none⟩ = some (.int .i64 x) := (hT.b.cell (p := ⟨g, s.vol, none⟩) hgl).trans HGC.out
  have hal := hT.a.lt
  have hrl := hT.r.lt
  have hgl3 := World.block_lt_of_cell? _ _ gc
  have HT := Lib.hid hT
  clear hT
  go_quiet (fail)
  go_upto_region 3 with (fail)
  refine wp_name (fun W4 => Tk w W4 #[.int .i64 s.cl, .int .i64 s.pa, V.m, V.g, .int .i64 s.nu, .int .i64 (1), .int .i64 (s.vol : Nat), .int .i64 s.c.cl, .int .i64 s.c.nu, .int .i64 s.c.kd, .int .i64 s.c.h1, .int .i64 s.c.h2, .int .i64 s.c.g1, .int .i64 s.c.g2, .string s.c.nm, .string s.c.ot, .int .i64 s.c.m1, .int .i64 s.c.m2, .int .i64 s.c.m3, .string s.c.mt, .bool s.c.fo, .int .i64 s.c.aa, .int .i64 s.c.nn, .int .i64 s.c.tt, .string s.c.bb, .int .i64 s.wait, .int .i64 s.vain, V.o, .int .i64 z.nu, .int .i64 z.co, .int .i64 z.a.co, .int .i64 z.a.h1, .int .i64 z.a.h2, .string z.a.b, .int .i64 z.a.i1, .int .i64 z.a.i2, .int .i64 z.a.i3, .int .i64 z.a.i4, .int .i64 z.a.i5, .int .i64 z.a.i6, .int .i64 z.a.i7, .int .i64 z.a.i8, .slice z.a.na z.a.nl z.a.nc] r) (HT.out.drewN nq) ?_
  clear HT a5 a6 a0 a4 a3 c0 c1 c2 c3 gc hal hrl hgl3
  rintro W4 hT
  have c4 : W4.cell? ⟨w.heap.size + 1, 4, none⟩ = some (.int .i64 r.co) := hT.r.cell 4
  rw [HC.out] at c4
  have a5 : W4.cell? ⟨w.heap.size, 5, none⟩ = some (.int .i64 1) := hT.a.cell 5
  have f5 := hT.a.frozen 5
  have hal := hT.a.lt
  have hrl := hT.r.lt
  have hzl := hT.z.lt
  have HT5 := Lib.hid (show Tk w (W4.setCell ⟨w.heap.size, 5, none⟩ (.int .i64 2)) #[.int .i64 s.cl, .int .i64 s.pa, V.m, V.g, .int .i64 s.nu, .int .i64 (2), .int .i64 (s.vol : Nat), .int .i64 s.c.cl, .int .i64 s.c.nu, .int .i64 s.c.kd, .int .i64 s.c.h1, .int .i64 s.c.h2, .int .i64 s.c.g1, .int .i64 s.c.g2, .string s.c.nm, .string s.c.ot, .int .i64 s.c.m1, .int .i64 s.c.m2, .int .i64 s.c.m3, .string s.c.mt, .bool s.c.fo, .int .i64 s.c.aa, .int .i64 s.c.nn, .int .i64 s.c.tt, .string s.c.bb, .int .i64 s.wait, .int .i64 s.vain, V.o, .int .i64 z.nu, .int .i64 z.co, .int .i64 z.a.co, .int .i64 z.a.h1, .int .i64 z.a.h2, .string z.a.b, .int .i64 z.a.i1, .int .i64 z.a.i2, .int .i64 z.a.i3, .int .i64 z.a.i4, .int .i64 z.a.i5, .int .i64 z.a.i6, .int .i64 z.a.i7, .int .i64 z.a.i8, .slice z.a.na z.a.nl z.a.nc] r from hT.set 5 _)
  clear hT
  go_upto_region 6 with (fail)
  clear c4 a5 f5 hal hrl hzl
  refine wp_name (fun W5 => Tk w W5 #[.int .i64 s.cl, .int .i64 s.pa, V.m, V.g, .int .i64 s.nu, .int .i64 (2), .int .i64 (s.vol : Nat), .int .i64 s.c.cl, .int .i64 s.c.nu, .int .i64 s.c.kd, .int .i64 s.c.h1, .int .i64 s.c.h2, .int .i64 s.c.g1, .int .i64 s.c.g2, .string s.c.nm, .string s.c.ot, .int .i64 s.c.m1, .int .i64 s.c.m2, .int .i64 s.c.m3, .string s.c.mt, .bool s.c.fo, .int .i64 s.c.aa, .int .i64 s.c.nn, .int .i64 s.c.tt, .string s.c.bb, .int .i64 s.wait, .int .i64 s.vain, V.o, .int .i64 z.nu, .int .i64 z.co, .int .i64 z.a.co, .int .i64 z.a.h1, .int .i64 z.a.h2, .string z.a.b, .int .i64 z.a.i1, .int .i64 z.a.i2, .int .i64 z.a.i3, .int .i64 z.a.i4, .int .i64 z.a.i5, .int .i64 z.a.i6, .int .i64 z.a.i7, .int .i64 z.a.i8, .slice z.a.na z.a.nl z.a.nc] r) HT5.out ?_
  clear HT5
  rintro W5 hT
  have c4 : W5.cell? ⟨w.heap.size + 1, 4, none⟩ = some (.int .i64 r.co) := hT.r.cell 4
  rw [HC.out] at c4
  have a4 : W5.cell? ⟨w.heap.size, 4, none⟩ = some (.int .i64 s.nu) := hT.a.cell 4
  have hal := hT.a.lt
  have hrl := hT.r.lt
  have hzl := hT.z.lt
  have HT := Lib.hid hT
  have HT6 := Lib.hid (hT.row #[.int .i64 s.cl, .int .i64 s.pa, V.m, V.g, .int .i64 s.nu, .int .i64 (2), .int .i64 (s.vol : Nat), .int .i64 s.c.cl, .int .i64 s.c.nu, .int .i64 s.c.kd, .int .i64 s.c.h1, .int .i64 s.c.h2, .int .i64 s.c.g1, .int .i64 s.c.g2, .string s.c.nm, .string s.c.ot, .int .i64 s.c.m1, .int .i64 s.c.m2, .int .i64 s.c.m3, .string s.c.mt, .bool s.c.fo, .int .i64 s.c.aa, .int .i64 s.c.nn, .int .i64 s.c.tt, .string s.c.bb, .int .i64 s.wait, .int .i64 s.vain, V.o, .int .i64 s.nu, .int .i64 0, .int .i64 0, .int .i64 0, .int .i64 0, .string ⟨#[]⟩, .int .i64 0, .int .i64 0, .int .i64 0, .int .i64 0, .int .i64 0, .int .i64 0, .int .i64 0, .int .i64 0, .slice none 0 0])
  clear hT
  go_upto_region 7 with (refine wpList_store_box rfl 44 (.tmp 68) (.tmp 67) rfl rfl _ 28 rfl [.int .i64 s.nu, .int .i64 0, .int .i64 0, .int .i64 0, .int .i64 0, .string ⟨#[]⟩, .int .i64 0, .int .i64 0, .int .i64 0, .int .i64 0, .int .i64 0, .int .i64 0, .int .i64 0, .int .i64 0, .slice none 0 0] rfl HT.out.a #[.int .i64 s.cl, .int .i64 s.pa, V.m, V.g, .int .i64 s.nu, .int .i64 (2), .int .i64 (s.vol : Nat), .int .i64 s.c.cl, .int .i64 s.c.nu, .int .i64 s.c.kd, .int .i64 s.c.h1, .int .i64 s.c.h2, .int .i64 s.c.g1, .int .i64 s.c.g2, .string s.c.nm, .string s.c.ot, .int .i64 s.c.m1, .int .i64 s.c.m2, .int .i64 s.c.m3, .string s.c.mt, .bool s.c.fo, .int .i64 s.c.aa, .int .i64 s.c.nn, .int .i64 s.c.tt, .string s.c.bb, .int .i64 s.wait, .int .i64 s.vain, V.o, .int .i64 s.nu, .int .i64 0, .int .i64 0, .int .i64 0, .int .i64 0, .string ⟨#[]⟩, .int .i64 0, .int .i64 0, .int .i64 0, .int .i64 0, .int .i64 0, .int .i64 0, .int .i64 0, .int .i64 0, .slice none 0 0] (by kernel_rfl) (by kernel_rfl) (by kernel_rfl) (by kernel_rfl) ?_)
  clear HT c4 a4 hal hrl hzl
  refine wp_name (fun W6 => Tk w W6 #[.int .i64 s.cl, .int .i64 s.pa, V.m, V.g, .int .i64 s.nu, .int .i64 (2), .int .i64 (s.vol : Nat), .int .i64 s.c.cl, .int .i64 s.c.nu, .int .i64 s.c.kd, .int .i64 s.c.h1, .int .i64 s.c.h2, .int .i64 s.c.g1, .int .i64 s.c.g2, .string s.c.nm, .string s.c.ot, .int .i64 s.c.m1, .int .i64 s.c.m2, .int .i64 s.c.m3, .string s.c.mt, .bool s.c.fo, .int .i64 s.c.aa, .int .i64 s.c.nn, .int .i64 s.c.tt, .string s.c.bb, .int .i64 s.wait, .int .i64 s.vain, V.o, .int .i64 s.nu, .int .i64 0, .int .i64 0, .int .i64 0, .int .i64 0, .string ⟨#[]⟩, .int .i64 0, .int .i64 0, .int .i64 0, .int .i64 0, .int .i64 0, .int .i64 0, .int .i64 0, .int .i64 0, .slice none 0 0] r) HT6.out ?_
  clear HT6
  rintro W6 hT
  have c4 : W6.cell? ⟨w.heap.size + 1, 4, none⟩ = some (.int .i64 r.co) := hT.r.cell 4
  rw [HC.out] at c4
  have hal := hT.a.lt
  have hrl := hT.r.lt
  have hzl := hT.z.lt
  have HONE9 := Lib.hid (one_rcs HR.out 2 ⟨s.nu, 0, r.a⟩)
  have HT := Lib.hid hT
  have HT8 := Lib.hid (hT.row #[.int .i64 s.cl, .int .i64 s.pa, V.m, V.g, .int .i64 s.nu, .int .i64 (2), .int .i64 (s.vol : Nat), .int .i64 s.c.cl, .int .i64 s.c.nu, .int .i64 s.c.kd, .int .i64 s.c.h1, .int .i64 s.c.h2, .int .i64 s.c.g1, .int .i64 s.c.g2, .string s.c.nm, .string s.c.ot, .int .i64 s.c.m1, .int .i64 s.c.m2, .int .i64 s.c.m3, .string s.c.mt, .bool s.c.fo, .int .i64 s.c.aa, .int .i64 s.c.nn, .int .i64 s.c.tt, .string s.c.bb, .int .i64 s.wait, .int .i64 s.vain, V.o, .int .i64 s.nu, .int .i64 0, .int .i64 r.a.co, .int .i64 r.a.h1, .int .i64 r.a.h2, .string r.a.b, .int .i64 r.a.i1, .int .i64 r.a.i2, .int .i64 r.a.i3, .int .i64 r.a.i4, .int .i64 r.a.i5, .int .i64 r.a.i6, .int .i64 r.a.i7, .int .i64 r.a.i8, .slice r.a.na r.a.nl r.a.nc])
  clear hT
  go_upto_region 9 with (first | (refine wpList_load_box rfl 42 (.tmp 74) rfl _ 5 rfl HT.out.r [.int .i64 r.a.co, .int .i64 r.a.h1, .int .i64 r.a.h2, .string r.a.b, .int .i64 r.a.i1, .int .i64 r.a.i2, .int .i64 r.a.i3, .int .i64 r.a.i4, .int .i64 r.a.i5, .int .i64 r.a.i6, .int .i64 r.a.i7, .int .i64 r.a.i8, .slice r.a.na r.a.nl r.a.nc] (by kernel_rfl) Try.underlying42 rfl (by kernel_rfl) ?_) | (refine wpList_store_box rfl 42 (.tmp 77) (.tmp 75) rfl rfl _ 30 rfl [.int .i64 r.a.co, .int .i64 r.a.h1, .int .i64 r.a.h2, .string r.a.b, .int .i64 r.a.i1, .int .i64 r.a.i2, .int .i64 r.a.i3, .int .i64 r.a.i4, .int .i64 r.a.i5, .int .i64 r.a.i6, .int .i64 r.a.i7, .int .i64 r.a.i8, .slice r.a.na r.a.nl r.a.nc] rfl HT.out.a #[.int .i64 s.cl, .int .i64 s.pa, V.m, V.g, .int .i64 s.nu, .int .i64 (2), .int .i64 (s.vol : Nat), .int .i64 s.c.cl, .int .i64 s.c.nu, .int .i64 s.c.kd, .int .i64 s.c.h1, .int .i64 s.c.h2, .int .i64 s.c.g1, .int .i64 s.c.g2, .string s.c.nm, .string s.c.ot, .int .i64 s.c.m1, .int .i64 s.c.m2, .int .i64 s.c.m3, .string s.c.mt, .bool s.c.fo, .int .i64 s.c.aa, .int .i64 s.c.nn, .int .i64 s.c.tt, .string s.c.bb, .int .i64 s.wait, .int .i64 s.vain, V.o, .int .i64 s.nu, .int .i64 0, .int .i64 r.a.co, .int .i64 r.a.h1, .int .i64 r.a.h2, .string r.a.b, .int .i64 r.a.i1, .int .i64 r.a.i2, .int .i64 r.a.i3, .int .i64 r.a.i4, .int .i64 r.a.i5, .int .i64 r.a.i6, .int .i64 r.a.i7, .int .i64 r.a.i8, .slice r.a.na r.a.nl r.a.nc] (by kernel_rfl) (by kernel_rfl) (by kernel_rfl) (by kernel_rfl) ?_))
  clear HT c4 hal hrl hzl
  refine wp_name (fun W8 => Tk w W8 #[.int .i64 s.cl, .int .i64 s.pa, V.m, V.g, .int .i64 s.nu, .int .i64 (2), .int .i64 (s.vol : Nat), .int .i64 s.c.cl, .int .i64 s.c.nu, .int .i64 s.c.kd, .int .i64 s.c.h1, .int .i64 s.c.h2, .int .i64 s.c.g1, .int .i64 s.c.g2, .string s.c.nm, .string s.c.ot, .int .i64 s.c.m1, .int .i64 s.c.m2, .int .i64 s.c.m3, .string s.c.mt, .bool s.c.fo, .int .i64 s.c.aa, .int .i64 s.c.nn, .int .i64 s.c.tt, .string s.c.bb, .int .i64 s.wait, .int .i64 s.vain, V.o, .int .i64 s.nu, .int .i64 0, .int .i64 r.a.co, .int .i64 r.a.h1, .int .i64 r.a.h2, .string r.a.b, .int .i64 r.a.i1, .int .i64 r.a.i2, .int .i64 r.a.i3, .int .i64 r.a.i4, .int .i64 r.a.i5, .int .i64 r.a.i6, .int .i64 r.a.i7, .int .i64 r.a.i8, .slice r.a.na r.a.nl r.a.nc] r) HT8.out ?_
  clear HT8
  rintro W8 hT
  have hal := hT.a.lt
  have hrl := hT.r.lt
  have hzl := hT.z.lt
  have HT := Lib.hid hT
  clear hT
  go_wp2_with (first | (refine wpList_load_box rfl 46 (.tmp 2) rfl _ 0 rfl HT.out.a (rcs s V 2 ⟨s.nu, 0, r.a⟩).toList (by kernel_rfl) Try.underlying46 rfl (by kernel_rfl) ?_) | (refine wpList_store_box rfl 46 (.tmp 4) (.tmp 78) rfl rfl _ 0 rfl (rcs s V 2 ⟨s.nu, 0, r.a⟩).toList rfl HT.out.z (rcs s V 2 ⟨s.nu, 0, r.a⟩) (by kernel_rfl) (by kernel_rfl) (by kernel_rfl) HONE9.out ?_))
  have HTS : takeS s r = endS s ⟨0, 0, r.a⟩ := by rw [takeS, if_pos HM.out, if_neg (by rw [HC.out]; omega), HC.out]; rfl
  refine ret_c Try.results14 rfl rfl ((HT.out.z.setRow _).load Try.underlying46 rfl (by kernel_rfl)) ?_
  rw [HTS]
  have BF := Below.setRow HT.out.b (g := w.heap.size + 1 + 1) (by omega) (rcs s V 2 ⟨s.nu, 0, r.a⟩)
  have hr := HR.out.below BF
  refine ⟨V, ⟨s.nu, 0, r.a⟩, rfl, fun q hq => List.head_eq_of_cons_eq hq, ⟨hr.rm, hr.rg, hr.ro⟩, RTo.same BF⟩
set_option maxRecDepth 100000 in
set_option maxHeartbeats 8000000 in
theorem rtake_err (z : Rs) (r : Rp) (h : Rt w V s) (ho : Okay s) (hm : meantB s r = true) (h1 : r.co ≠ 190) (h2 : r.co ≠ 191) (h3 : r.co ≠ 210) (h4 : r.co ≠ 0) : Calls Try.prog 14 #[.agg (rcs s V (phS s) z), .agg (rp r)] w (Gives w V (takeS s r) (phS (takeS s r))) := by
  obtain ⟨m1, m2, m3, m4, m5⟩ := meant_all hm
  have hf := ho.fit
  obtain ⟨b1, b2, b3⟩ := ho.busy m1
  have hp1 : phS s = 1 := by rw [phS, m1]; rfl
  rw [hp1]
  have HONE := Lib.hid (one_rcs h (1) z)
  have HT := Lib.hid (Tk.new w #[.int .i64 s.cl, .int .i64 s.pa, V.m, V.g, .int .i64 s.nu, .int .i64 (1), .int .i64 (s.vol : Nat), .int .i64 s.c.cl, .int .i64 s.c.nu, .int .i64 s.c.kd, .int .i64 s.c.h1, .int .i64 s.c.h2, .int .i64 s.c.g1, .int .i64 s.c.g2, .string s.c.nm, .string s.c.ot, .int .i64 s.c.m1, .int .i64 s.c.m2, .int .i64 s.c.m3, .string s.c.mt, .bool s.c.fo, .int .i64 s.c.aa, .int .i64 s.c.nn, .int .i64 s.c.tt, .string s.c.bb, .int .i64 s.wait, .int .i64 s.vain, V.o, .int .i64 z.nu, .int .i64 z.co, .int .i64 z.a.co, .int .i64 z.a.h1, .int .i64 z.a.h2, .string z.a.b, .int .i64 z.a.i1, .int .i64 z.a.i2, .int .i64 z.a.i3, .int .i64 z.a.i4, .int .i64 z.a.i5, .int .i64 z.a.i6, .int .i64 z.a.i7, .int .i64 z.a.i8, .slice z.a.na z.a.nl z.a.nc] r)
  obtain ⟨g, cg, hvg, hgl, hvl, hgc⟩ := own_at1r h.rg s.vol (gv s) hf.gat
  obtain ⟨x, hx⟩ : ∃ x, x = gv s := ⟨_, rfl⟩
  rw [← hx] at hgc
  have HGC := Lib.hid hgc
  have HVG := Lib.hid hvg
  have HX := Lib.hid hx
  have k1 : (r.vol != ((s.vol : Nat) : Int)) = false := by simpa using m2
  have k2 : (r.cl != s.cl) = false := by simpa using m4
  have k3 : (r.nu != s.nu) = false := by simpa using m5
  have k4 : (r.srv != x) = false := by rw [hx]; simpa using m3
  have HR := Lib.hid h
  have HF := Lib.hid hf
  have HB := Lib.hid m1
  have HD := Lib.hid b3
  have HP := Lib.hid hp1
  have HC := trivial
  have HM := Lib.hid hm
  have HV := Lib.hid hvg
  clear h hf ho hm hvg hx hgc m1 m2 m3 m4 m5 b2 b3 hp1
  have e1 : (r.co == 190) = false := by simpa using h1
  have e2 : (r.co == 191) = false := by simpa using h2
  have e3 : (r.co == 210) = false := by simpa using h3
  have e4 : (r.co == 0) = false := by simpa using h4
  have HK := Lib.hid (show ¬ (r.co = 190 ∨ r.co = 191 ∨ r.co = 210) by omega)
  have HK0 := Lib.hid h4
  clear h1 h2 h3 h4
  go_enter Try.func14, Try.ntmps14
  go_upto_region 1 with (fail)
  refine wp_name (fun W3 => Tk w W3 #[.int .i64 s.cl, .int .i64 s.pa, V.m, V.g, .int .i64 s.nu, .int .i64 (1), .int .i64 (s.vol : Nat), .int .i64 s.c.cl, .int .i64 s.c.nu, .int .i64 s.c.kd, .int .i64 s.c.h1, .int .i64 s.c.h2, .int .i64 s.c.g1, .int .i64 s.c.g2, .string s.c.nm, .string s.c.ot, .int .i64 s.c.m1, .int .i64 s.c.m2, .int .i64 s.c.m3, .string s.c.mt, .bool s.c.fo, .int .i64 s.c.aa, .int .i64 s.c.nn, .int .i64 s.c.tt, .string s.c.bb, .int .i64 s.wait, .int .i64 s.vain, V.o, .int .i64 z.nu, .int .i64 z.co, .int .i64 z.a.co, .int .i64 z.a.h1, .int .i64 z.a.h2, .string z.a.b, .int .i64 z.a.i1, .int .i64 z.a.i2, .int .i64 z.a.i3, .int .i64 z.a.i4, .int .i64 z.a.i5, .int .i64 z.a.i6, .int .i64 z.a.i7, .int .i64 z.a.i8, .slice z.a.na z.a.nl z.a.nc] r) HT.out ?_
  clear HT
  rintro W3 hT
  have a5 : W3.cell? ⟨w.heap.size, 5, none⟩ = some (.int .i64 (1)) := hT.a.cell 5
  have a6 : W3.cell? ⟨w.heap.size, 6, none⟩ = some (.int .i64 (s.vol : Nat)) := hT.a.cell 6
  have a0 : W3.cell? ⟨w.heap.size, 0, none⟩ = some (.int .i64 s.cl) := hT.a.cell 0
  have a4 : W3.cell? ⟨w.heap.size, 4, none⟩ = some (.int .i64 s.nu) := hT.a.cell 4
  have a3 : W3.cell? ⟨w.heap.size, 3, none⟩ = some V.g := hT.a.cell 3
  rw [HVG.out] at a3
  have c0 : W3.cell? ⟨w.heap.size + 1, 0, none⟩ = some (.int .i64 r.vol) := hT.r.cell 0
  have c1 : W3.cell? ⟨w.heap.size + 1, 1, none⟩ = some (.int .i64 r.srv) := hT.r.cell 1
  have c2 : W3.cell? ⟨w.heap.size + 1, 2, none⟩ = some (.int .i64 r.cl) := hT.r.cell 2
  have c3 : W3.cell? ⟨w.heap.size + 1, 3, none⟩ = some (.int .i64 r.nu) := hT.r.cell 3
  have gc : W3.cell? ⟨g, s.vol, none⟩ = some (.int .i64 x) := (hT.b.cell (p := ⟨g, s.vol, none⟩) hgl).trans HGC.out
  have hal := hT.a.lt
  have hrl := hT.r.lt
  have hgl3 := World.block_lt_of_cell? _ _ gc
  have HT := Lib.hid hT
  clear hT
  go_quiet (fail)
  go_upto_region 3 with (fail)
  refine wp_name (fun W4 => Tk w W4 #[.int .i64 s.cl, .int .i64 s.pa, V.m, V.g, .int .i64 s.nu, .int .i64 (1), .int .i64 (s.vol : Nat), .int .i64 s.c.cl, .int .i64 s.c.nu, .int .i64 s.c.kd, .int .i64 s.c.h1, .int .i64 s.c.h2, .int .i64 s.c.g1, .int .i64 s.c.g2, .string s.c.nm, .string s.c.ot, .int .i64 s.c.m1, .int .i64 s.c.m2, .int .i64 s.c.m3, .string s.c.mt, .bool s.c.fo, .int .i64 s.c.aa, .int .i64 s.c.nn, .int .i64 s.c.tt, .string s.c.bb, .int .i64 s.wait, .int .i64 s.vain, V.o, .int .i64 z.nu, .int .i64 z.co, .int .i64 z.a.co, .int .i64 z.a.h1, .int .i64 z.a.h2, .string z.a.b, .int .i64 z.a.i1, .int .i64 z.a.i2, .int .i64 z.a.i3, .int .i64 z.a.i4, .int .i64 z.a.i5, .int .i64 z.a.i6, .int .i64 z.a.i7, .int .i64 z.a.i8, .slice z.a.na z.a.nl z.a.nc] r) (HT.out.drewN nq) ?_
  clear HT a5 a6 a0 a4 a3 c0 c1 c2 c3 gc hal hrl hgl3
  rintro W4 hT
  have c4 : W4.cell? ⟨w.heap.size + 1, 4, none⟩ = some (.int .i64 r.co) := hT.r.cell 4
  have a5 : W4.cell? ⟨w.heap.size, 5, none⟩ = some (.int .i64 1) := hT.a.cell 5
  have f5 := hT.a.frozen 5
  have hal := hT.a.lt
  have hrl := hT.r.lt
  have hzl := hT.z.lt
  have HT5 := Lib.hid (show Tk w (W4.setCell ⟨w.heap.size, 5, none⟩ (.int .i64 2)) #[.int .i64 s.cl, .int .i64 s.pa, V.m, V.g, .int .i64 s.nu, .int .i64 (2), .int .i64 (s.vol : Nat), .int .i64 s.c.cl, .int .i64 s.c.nu, .int .i64 s.c.kd, .int .i64 s.c.h1, .int .i64 s.c.h2, .int .i64 s.c.g1, .int .i64 s.c.g2, .string s.c.nm, .string s.c.ot, .int .i64 s.c.m1, .int .i64 s.c.m2, .int .i64 s.c.m3, .string s.c.mt, .bool s.c.fo, .int .i64 s.c.aa, .int .i64 s.c.nn, .int .i64 s.c.tt, .string s.c.bb, .int .i64 s.wait, .int .i64 s.vain, V.o, .int .i64 z.nu, .int .i64 z.co, .int .i64 z.a.co, .int .i64 z.a.h1, .int .i64 z.a.h2, .string z.a.b, .int .i64 z.a.i1, .int .i64 z.a.i2, .int .i64 z.a.i3, .int .i64 z.a.i4, .int .i64 z.a.i5, .int .i64 z.a.i6, .int .i64 z.a.i7, .int .i64 z.a.i8, .slice z.a.na z.a.nl z.a.nc] r from hT.set 5 _)
  clear hT
  go_upto_region 6 with (fail)
  clear c4 a5 f5 hal hrl hzl
  refine wp_name (fun W5 => Tk w W5 #[.int .i64 s.cl, .int .i64 s.pa, V.m, V.g, .int .i64 s.nu, .int .i64 (2), .int .i64 (s.vol : Nat), .int .i64 s.c.cl, .int .i64 s.c.nu, .int .i64 s.c.kd, .int .i64 s.c.h1, .int .i64 s.c.h2, .int .i64 s.c.g1, .int .i64 s.c.g2, .string s.c.nm, .string s.c.ot, .int .i64 s.c.m1, .int .i64 s.c.m2, .int .i64 s.c.m3, .string s.c.mt, .bool s.c.fo, .int .i64 s.c.aa, .int .i64 s.c.nn, .int .i64 s.c.tt, .string s.c.bb, .int .i64 s.wait, .int .i64 s.vain, V.o, .int .i64 z.nu, .int .i64 z.co, .int .i64 z.a.co, .int .i64 z.a.h1, .int .i64 z.a.h2, .string z.a.b, .int .i64 z.a.i1, .int .i64 z.a.i2, .int .i64 z.a.i3, .int .i64 z.a.i4, .int .i64 z.a.i5, .int .i64 z.a.i6, .int .i64 z.a.i7, .int .i64 z.a.i8, .slice z.a.na z.a.nl z.a.nc] r) HT5.out ?_
  clear HT5
  rintro W5 hT
  have c4 : W5.cell? ⟨w.heap.size + 1, 4, none⟩ = some (.int .i64 r.co) := hT.r.cell 4
  have a4 : W5.cell? ⟨w.heap.size, 4, none⟩ = some (.int .i64 s.nu) := hT.a.cell 4
  have hal := hT.a.lt
  have hrl := hT.r.lt
  have hzl := hT.z.lt
  have HT := Lib.hid hT
  have HT6 := Lib.hid (hT.row #[.int .i64 s.cl, .int .i64 s.pa, V.m, V.g, .int .i64 s.nu, .int .i64 (2), .int .i64 (s.vol : Nat), .int .i64 s.c.cl, .int .i64 s.c.nu, .int .i64 s.c.kd, .int .i64 s.c.h1, .int .i64 s.c.h2, .int .i64 s.c.g1, .int .i64 s.c.g2, .string s.c.nm, .string s.c.ot, .int .i64 s.c.m1, .int .i64 s.c.m2, .int .i64 s.c.m3, .string s.c.mt, .bool s.c.fo, .int .i64 s.c.aa, .int .i64 s.c.nn, .int .i64 s.c.tt, .string s.c.bb, .int .i64 s.wait, .int .i64 s.vain, V.o, .int .i64 s.nu, .int .i64 r.co, .int .i64 0, .int .i64 0, .int .i64 0, .string ⟨#[]⟩, .int .i64 0, .int .i64 0, .int .i64 0, .int .i64 0, .int .i64 0, .int .i64 0, .int .i64 0, .int .i64 0, .slice none 0 0])
  clear hT
  go_upto_region 7 with (refine wpList_store_box rfl 44 (.tmp 68) (.tmp 67) rfl rfl _ 28 rfl [.int .i64 s.nu, .int .i64 r.co, .int .i64 0, .int .i64 0, .int .i64 0, .string ⟨#[]⟩, .int .i64 0, .int .i64 0, .int .i64 0, .int .i64 0, .int .i64 0, .int .i64 0, .int .i64 0, .int .i64 0, .slice none 0 0] rfl HT.out.a #[.int .i64 s.cl, .int .i64 s.pa, V.m, V.g, .int .i64 s.nu, .int .i64 (2), .int .i64 (s.vol : Nat), .int .i64 s.c.cl, .int .i64 s.c.nu, .int .i64 s.c.kd, .int .i64 s.c.h1, .int .i64 s.c.h2, .int .i64 s.c.g1, .int .i64 s.c.g2, .string s.c.nm, .string s.c.ot, .int .i64 s.c.m1, .int .i64 s.c.m2, .int .i64 s.c.m3, .string s.c.mt, .bool s.c.fo, .int .i64 s.c.aa, .int .i64 s.c.nn, .int .i64 s.c.tt, .string s.c.bb, .int .i64 s.wait, .int .i64 s.vain, V.o, .int .i64 s.nu, .int .i64 r.co, .int .i64 0, .int .i64 0, .int .i64 0, .string ⟨#[]⟩, .int .i64 0, .int .i64 0, .int .i64 0, .int .i64 0, .int .i64 0, .int .i64 0, .int .i64 0, .int .i64 0, .slice none 0 0] (by kernel_rfl) (by kernel_rfl) (by kernel_rfl) (by kernel_rfl) ?_)
  clear HT c4 a4 hal hrl hzl
  refine wp_name (fun W6 => Tk w W6 #[.int .i64 s.cl, .int .i64 s.pa, V.m, V.g, .int .i64 s.nu, .int .i64 (2), .int .i64 (s.vol : Nat), .int .i64 s.c.cl, .int .i64 s.c.nu, .int .i64 s.c.kd, .int .i64 s.c.h1, .int .i64 s.c.h2, .int .i64 s.c.g1, .int .i64 s.c.g2, .string s.c.nm, .string s.c.ot, .int .i64 s.c.m1, .int .i64 s.c.m2, .int .i64 s.c.m3, .string s.c.mt, .bool s.c.fo, .int .i64 s.c.aa, .int .i64 s.c.nn, .int .i64 s.c.tt, .string s.c.bb, .int .i64 s.wait, .int .i64 s.vain, V.o, .int .i64 s.nu, .int .i64 r.co, .int .i64 0, .int .i64 0, .int .i64 0, .string ⟨#[]⟩, .int .i64 0, .int .i64 0, .int .i64 0, .int .i64 0, .int .i64 0, .int .i64 0, .int .i64 0, .int .i64 0, .slice none 0 0] r) HT6.out ?_
  clear HT6
  rintro W6 hT
  have c4 : W6.cell? ⟨w.heap.size + 1, 4, none⟩ = some (.int .i64 r.co) := hT.r.cell 4
  have hal := hT.a.lt
  have hrl := hT.r.lt
  have hzl := hT.z.lt
  have HONE9 := Lib.hid (one_rcs HR.out 2 ⟨s.nu, r.co, zeroAn⟩)
  have HT := Lib.hid hT
  clear hT
  go_wp2_with (first | (refine wpList_load_box rfl 46 (.tmp 2) rfl _ 0 rfl HT.out.a (rcs s V 2 ⟨s.nu, r.co, zeroAn⟩).toList (by kernel_rfl) Try.underlying46 rfl (by kernel_rfl) ?_) | (refine wpList_store_box rfl 46 (.tmp 4) (.tmp 78) rfl rfl _ 0 rfl (rcs s V 2 ⟨s.nu, r.co, zeroAn⟩).toList rfl HT.out.z (rcs s V 2 ⟨s.nu, r.co, zeroAn⟩) (by kernel_rfl) (by kernel_rfl) (by kernel_rfl) HONE9.out ?_))
  have HTS : takeS s r = endS s ⟨0, r.co, zeroAn⟩ := by rw [takeS, if_pos HM.out, if_neg HK.out, if_neg HK0.out]
  refine ret_c Try.results14 rfl rfl ((HT.out.z.setRow _).load Try.underlying46 rfl (by kernel_rfl)) ?_
  rw [HTS]
  have BF := Below.setRow HT.out.b (g := w.heap.size + 1 + 1) (by omega) (rcs s V 2 ⟨s.nu, r.co, zeroAn⟩)
  have hr := HR.out.below BF
  refine ⟨V, ⟨s.nu, r.co, zeroAn⟩, rfl, fun q hq => List.head_eq_of_cons_eq hq, ⟨hr.rm, hr.rg, hr.ro⟩, RTo.same BF⟩
theorem rtake_any (z : Rs) (r : Rp) (hz : ∀ q, s.done = [q] → z = q) (h : Rt w V s) (ho : Okay s) (hl : s.out.length ≤ 500) : Calls Try.prog 14 #[.agg (rcs s V (phS s) z), .agg (rp r)] w (Gives w V (takeS s r) (phS (takeS s r))) := by
  cases hm : meantB s r
  · have ht : takeS s r = s := by rw [takeS, hm]; rfl
    rw [ht]
    have key : Calls Try.prog 14 #[.agg (rcs s V (phS s) z), .agg (rp r)] w fun e w' => e = .returned (.agg (rcs s V (phS s) z)) ∧ Below w.heap.size w w' := by
      cases hb : s.busy
      · exact rtake_idle z (phS s) r h ho.fit (by rcases phS_idle hb with h1 | h1 <;> rw [h1] <;> omega)
      · have hp1 : phS s = 1 := by rw [phS, hb]; rfl
        rw [hp1]
        simp only [meantB, hb, Bool.true_and] at hm
        by_cases h1 : r.vol = ((s.vol : Nat) : Int)
        · by_cases h2 : r.cl = s.cl
          · by_cases h3 : r.nu = s.nu
            · by_cases h4 : r.srv = gv s
              · rw [beq_iff_eq.2 h1, beq_iff_eq.2 h2, beq_iff_eq.2 h3, beq_iff_eq.2 h4] at hm
                cases hm
              · exact rtake_srv z r h ho.fit h1 h2 h3 h4
            · exact rtake_nu z r h ho.fit h1 h2 h3
          · exact rtake_cl z r h ho.fit h1 h2
        · exact rtake_vol z r h ho.fit h1
    refine key.mono ?_
    rintro e w' ⟨rfl, b⟩
    exact Gives.same z hz h b
  · by_cases h1 : r.co = 190
    · exact rtake_190 z r h ho hl hm h1
    · by_cases h2 : r.co = 191
      · exact rtake_191 z r h ho hl hm h2
      · by_cases h3 : r.co = 210
        · exact rtake_210 z r h ho hl hm h3
        · by_cases h4 : r.co = 0
          · exact rtake_ok z r h ho hm h4
          · exact rtake_err z r h ho hm h1 h2 h3 h4
end Go.Proofs.Ytlkilkndjfcejaa
