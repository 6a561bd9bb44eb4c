/- porter: the document's Take. Conditions: the client is in its bounds. -/
import Derived.Test.YtlkilkndjfcejaaRf
import Derived.Deep.QuietTactic
import Derived.BigQuiet
namespace Go.Proofs.Ytlkilkndjfcejaa
open Go Go.RowKit
set_option linter.unusedVariables false
set_option linter.unusedSimpArgs false
variable {w w' : World} {s s' : St} {V V' : Vr}

theorem box58 (w : World) (o o' : Obj) (B : Array Value) (T : TypeId) : Box (((w.alloc o).alloc (.cells B T)).alloc o') (w.heap.size + 1) T B := (box2 w o B T).alloc _
/-- what Take has in memory. -/
structure Tk (w W : World) (A : Array Value) (r : Rp) : Prop where
  a : Box W w.heap.size 46 A
  r : Box W (w.heap.size + 1) 58 (rp r)
  z : Box W (w.heap.size + 1 + 1) 46 #[.int .i64 0, .int .i64 0, .slice none 0 0, .slice none 0 0, .int .i64 0, .int .i64 0, .int .i64 0, .int .i64 0, .int .i64 0, .int .i64 0, .int .i64 0, .int .i64 0, .int .i64 0, .int .i64 0, .string ⟨#[]⟩, .string ⟨#[]⟩, .int .i64 0, .int .i64 0, .int .i64 0, .string ⟨#[]⟩, .bool false, .int .i64 0, .int .i64 0, .int .i64 0, .string ⟨#[]⟩, .int .i64 0, .int .i64 0, .slice none 0 0, .int .i64 0, .int .i64 0, .int .i64 0, .int .i64 0, .int .i64 0, .string ⟨#[]⟩, .int .i64 0, .int .i64 0, .int .i64 0, .int .i64 0, .int .i64 0, .int .i64 0, .int .i64 0, .int .i64 0, .slice none 0 0]
  b : Below w.heap.size w W
theorem Tk.set {W : World} {A : Array Value} {r : Rp} (h : Tk w W A r) (j : Nat) (u : Value) : Tk w (W.setCell ⟨w.heap.size, j, none⟩ u) (A.setIfInBounds j u) r :=
  ⟨h.a.set j u, h.r.set_other (p := ⟨w.heap.size, j, none⟩) (by show w.heap.size + 1 ≠ w.heap.size; omega) u, h.z.set_other (p := ⟨w.heap.size, j, none⟩) (by show w.heap.size + 1 + 1 ≠ w.heap.size; omega) u, h.b.setCell (p := ⟨w.heap.size, j, none⟩) (Nat.le_refl _) u⟩
theorem Tk.row {W : World} {A : Array Value} {r : Rp} (h : Tk w W A r) (new : Array Value) : Tk w (W.setRow w.heap.size new) new r :=
  ⟨h.a.setRow new, h.r.setRow_other new (by omega), h.z.setRow_other new (by omega), Below.setRow h.b (Nat.le_refl _) new⟩
theorem Tk.drewN {W : World} {A : Array Value} {r : Rp} (h : Tk w W A r) (n : Nat) : Tk w (W.drewN n) A r := ⟨h.a, h.r, h.z, Below.drewN h.b n⟩
theorem Tk.new (w : World) (A : Array Value) (r : Rp) : Tk w (((w.alloc (.cells A 46)).alloc (.cells (rp r) 58)).alloc (.cells #[.int .i64 0, .int .i64 0, .slice none 0 0, .slice none 0 0, .int .i64 0, .int .i64 0, .int .i64 0, .int .i64 0, .int .i64 0, .int .i64 0, .int .i64 0, .int .i64 0, .int .i64 0, .int .i64 0, .string ⟨#[]⟩, .string ⟨#[]⟩, .int .i64 0, .int .i64 0, .int .i64 0, .string ⟨#[]⟩, .bool false, .int .i64 0, .int .i64 0, .int .i64 0, .string ⟨#[]⟩, .int .i64 0, .int .i64 0, .slice none 0 0, .int .i64 0, .int .i64 0, .int .i64 0, .int .i64 0, .int .i64 0, .string ⟨#[]⟩, .int .i64 0, .int .i64 0, .int .i64 0, .int .i64 0, .int .i64 0, .int .i64 0, .int .i64 0, .int .i64 0, .slice none 0 0] 46)) A r :=
  ⟨box3a w A 46 58 (rp r) _, box3b w _ _ (rp r) 58, box3c w _ _ _ 46, (((Below.refl w.heap.size w).alloc (Nat.le_refl _) _).alloc (by simp) _).alloc (by simp; omega) _⟩
theorem own_at1r {l : List Int} {v : Value} {base : Nat} (h : w.ownsRow base 3 1 v l.length (l.map iv)) (k : Nat) (x : Int) (hk : l[k]? = some x) : ∃ g cap, v = .slice (some ⟨g, 0, none⟩) l.length cap ∧ g < w.heap.size ∧ k < l.length ∧ w.cell? ⟨g, k, none⟩ = some (.int .i64 x) := by
  obtain ⟨g, cap, h1, _, h2, h3, _, h4, _⟩ := own_at1 h k x hk
  exact ⟨g, cap, h1, h2, h3, h4⟩
set_option maxRecDepth 100000 in
set_option maxHeartbeats 8000000 in
theorem rtake_idle (z : Rs) (ph : Int) (r : Rp) (h : Rt w V s) (hf : Fit s) (hp : ph ≠ 1) : Calls Try.prog 14 #[.agg (rcs s V (ph) z), .agg (rp r)] w fun e w' => e = .returned (.agg (rcs s V (ph) z)) ∧ Below w.heap.size w w' := by
  have HONE := Lib.hid (one_rcs h (ph) z)
  have HT := Lib.hid (Tk.new w #[.int .i64 s.cl, .int .i64 s.pa, V.m, V.g, .int .i64 s.nu, .int .i64 (ph), .int .i64 (s.vol : Nat), .int .i64 s.c.cl, .int .i64 s.c.nu, .int .i64 s.c.kd, .int .i64 s.c.h1, .int .i64 s.c.h2, .int .i64 s.c.g1, .int .i64 s.c.g2, .string s.c.nm, .string s.c.ot, .int .i64 s.c.m1, .int .i64 s.c.m2, .int .i64 s.c.m3, .string s.c.mt, .bool s.c.fo, .int .i64 s.c.aa, .int .i64 s.c.nn, .int .i64 s.c.tt, .string s.c.bb, .int .i64 s.wait, .int .i64 s.vain, V.o, .int .i64 z.nu, .int .i64 z.co, .int .i64 z.a.co, .int .i64 z.a.h1, .int .i64 z.a.h2, .string z.a.b, .int .i64 z.a.i1, .int .i64 z.a.i2, .int .i64 z.a.i3, .int .i64 z.a.i4, .int .i64 z.a.i5, .int .i64 z.a.i6, .int .i64 z.a.i7, .int .i64 z.a.i8, .slice z.a.na z.a.nl z.a.nc] r)
  obtain ⟨g, cg, hvg, hgl, hvl, hgc⟩ := own_at1r h.rg s.vol (gv s) hf.gat
  obtain ⟨x, hx⟩ : ∃ x, x = gv s := ⟨_, rfl⟩
  rw [← hx] at hgc
  have HGC := Lib.hid hgc
  have HVG := Lib.hid hvg
  have HX := Lib.hid hx
  have hp2 : (ph != 1) = true := by simpa using hp
  clear hp
  clear h hf hvg hx hgc
  go_enter Try.func14, Try.ntmps14
  go_upto_region 1 with (fail)
  refine wp_name (fun W3 => Tk w W3 #[.int .i64 s.cl, .int .i64 s.pa, V.m, V.g, .int .i64 s.nu, .int .i64 (ph), .int .i64 (s.vol : Nat), .int .i64 s.c.cl, .int .i64 s.c.nu, .int .i64 s.c.kd, .int .i64 s.c.h1, .int .i64 s.c.h2, .int .i64 s.c.g1, .int .i64 s.c.g2, .string s.c.nm, .string s.c.ot, .int .i64 s.c.m1, .int .i64 s.c.m2, .int .i64 s.c.m3, .string s.c.mt, .bool s.c.fo, .int .i64 s.c.aa, .int .i64 s.c.nn, .int .i64 s.c.tt, .string s.c.bb, .int .i64 s.wait, .int .i64 s.vain, V.o, .int .i64 z.nu, .int .i64 z.co, .int .i64 z.a.co, .int .i64 z.a.h1, .int .i64 z.a.h2, .string z.a.b, .int .i64 z.a.i1, .int .i64 z.a.i2, .int .i64 z.a.i3, .int .i64 z.a.i4, .int .i64 z.a.i5, .int .i64 z.a.i6, .int .i64 z.a.i7, .int .i64 z.a.i8, .slice z.a.na z.a.nl z.a.nc] r) HT.out ?_
  clear HT
  rintro W3 hT
  have a5 : W3.cell? ⟨w.heap.size, 5, none⟩ = some (.int .i64 (ph)) := hT.a.cell 5
  have a6 : W3.cell? ⟨w.heap.size, 6, none⟩ = some (.int .i64 (s.vol : Nat)) := hT.a.cell 6
  have a0 : W3.cell? ⟨w.heap.size, 0, none⟩ = some (.int .i64 s.cl) := hT.a.cell 0
  have a4 : W3.cell? ⟨w.heap.size, 4, none⟩ = some (.int .i64 s.nu) := hT.a.cell 4
  have a3 : W3.cell? ⟨w.heap.size, 3, none⟩ = some V.g := hT.a.cell 3
  rw [HVG.out] at a3
  have c0 : W3.cell? ⟨w.heap.size + 1, 0, none⟩ = some (.int .i64 r.vol) := hT.r.cell 0
  have c1 : W3.cell? ⟨w.heap.size + 1, 1, none⟩ = some (.int .i64 r.srv) := hT.r.cell 1
  have c2 : W3.cell? ⟨w.heap.size + 1, 2, none⟩ = some (.int .i64 r.cl) := hT.r.cell 2
  have c3 : W3.cell? ⟨w.heap.size + 1, 3, none⟩ = some (.int .i64 r.nu) := hT.r.cell 3
  have gc : W3.cell? ⟨g, s.vol, none⟩ = some (.int .i64 x) := (hT.b.cell (p := ⟨g, s.vol, none⟩) hgl).trans HGC.out
  have hal := hT.a.lt
  have hrl := hT.r.lt
  have hgl3 := World.block_lt_of_cell? _ _ gc
  have HT := Lib.hid hT
  clear hT
  go_quiet (fail)
  go_upto_region 2 with (fail)
  refine wp_name (fun W4 => Tk w W4 #[.int .i64 s.cl, .int .i64 s.pa, V.m, V.g, .int .i64 s.nu, .int .i64 (ph), .int .i64 (s.vol : Nat), .int .i64 s.c.cl, .int .i64 s.c.nu, .int .i64 s.c.kd, .int .i64 s.c.h1, .int .i64 s.c.h2, .int .i64 s.c.g1, .int .i64 s.c.g2, .string s.c.nm, .string s.c.ot, .int .i64 s.c.m1, .int .i64 s.c.m2, .int .i64 s.c.m3, .string s.c.mt, .bool s.c.fo, .int .i64 s.c.aa, .int .i64 s.c.nn, .int .i64 s.c.tt, .string s.c.bb, .int .i64 s.wait, .int .i64 s.vain, V.o, .int .i64 z.nu, .int .i64 z.co, .int .i64 z.a.co, .int .i64 z.a.h1, .int .i64 z.a.h2, .string z.a.b, .int .i64 z.a.i1, .int .i64 z.a.i2, .int .i64 z.a.i3, .int .i64 z.a.i4, .int .i64 z.a.i5, .int .i64 z.a.i6, .int .i64 z.a.i7, .int .i64 z.a.i8, .slice z.a.na z.a.nl z.a.nc] r) (HT.out.drewN nq) ?_
  clear HT a5 a6 a0 a4 a3 c0 c1 c2 c3 gc hal hrl hgl3
  rintro W4 hT
  have hal := hT.a.lt
  have hzl := hT.z.lt
  have HT := Lib.hid hT
  clear hT
  go_wp2_with (first | (refine wpList_load_box rfl 46 (.tmp 2) rfl _ 0 rfl HT.out.a (rcs s V (ph) z).toList (by kernel_rfl) Try.underlying46 rfl (by kernel_rfl) ?_) | (refine wpList_store_box rfl 46 (.tmp 4) (.tmp 42) rfl rfl _ 0 rfl (rcs s V (ph) z).toList rfl HT.out.z (rcs s V (ph) z) (by kernel_rfl) (by kernel_rfl) (by kernel_rfl) HONE.out ?_))
  exact ret_c Try.results14 rfl rfl ((HT.out.z.setRow _).load Try.underlying46 rfl (by kernel_rfl)) ⟨rfl, Below.setRow HT.out.b (by omega) _⟩
set_option maxRecDepth 100000 in
set_option maxHeartbeats 8000000 in
theorem rtake_vol (z : Rs) (r : Rp) (h : Rt w V s) (hf : Fit s) (h1 : r.vol ≠ ((s.vol : Nat) : Int)) : Calls Try.prog 14 #[.agg (rcs s V (1) z), .agg (rp r)] w fun e w' => e = .returned (.agg (rcs s V (1) z)) ∧ Below w.heap.size w w' := by
  have HONE := Lib.hid (one_rcs h (1) z)
  have HT := Lib.hid (Tk.new w #[.int .i64 s.cl, .int .i64 s.pa, V.m, V.g, .int .i64 s.nu, .int .i64 (1), .int .i64 (s.vol : Nat), .int .i64 s.c.cl, .int .i64 s.c.nu, .int .i64 s.c.kd, .int .i64 s.c.h1, .int .i64 s.c.h2, .int .i64 s.c.g1, .int .i64 s.c.g2, .string s.c.nm, .string s.c.ot, .int .i64 s.c.m1, .int .i64 s.c.m2, .int .i64 s.c.m3, .string s.c.mt, .bool s.c.fo, .int .i64 s.c.aa, .int .i64 s.c.nn, .int .i64 s.c.tt, .string s.c.bb, .int .i64 s.wait, .int .i64 s.vain, V.o, .int .i64 z.nu, .int .i64 z.co, .int .i64 z.a.co, .int .i64 z.a.h1, .int .i64 z.a.h2, .string z.a.b, .int .i64 z.a.i1, .int .i64 z.a.i2, .int .i64 z.a.i3, .int .i64 z.a.i4, .int .i64 z.a.i5, .int .i64 z.a.i6, .int .i64 z.a.i7, .int .i64 z.a.i8, .slice z.a.na z.a.nl z.a.nc] r)
  obtain ⟨g, cg, hvg, hgl, hvl, hgc⟩ := own_at1r h.rg s.vol (gv s) hf.gat
  obtain ⟨x, hx⟩ : ∃ x, x = gv s := ⟨_, rfl⟩
  rw [← hx] at hgc
  have HGC := Lib.hid hgc
  have HVG := Lib.hid hvg
  have HX := Lib.hid hx
  have k1 : (r.vol != ((s.vol : Nat) : Int)) = true := by simpa using h1
  clear h1
  clear h hf hvg hx hgc
  go_enter Try.func14, Try.ntmps14
  go_upto_region 1 with (fail)
  refine wp_name (fun W3 => Tk w W3 #[.int .i64 s.cl, .int .i64 s.pa, V.m, V.g, .int .i64 s.nu, .int .i64 (1), .int .i64 (s.vol : Nat), .int .i64 s.c.cl, .int .i64 s.c.nu, .int .i64 s.c.kd, .int .i64 s.c.h1, .int .i64 s.c.h2, .int .i64 s.c.g1, .int .i64 s.c.g2, .string s.c.nm, .string s.c.ot, .int .i64 s.c.m1, .int .i64 s.c.m2, .int .i64 s.c.m3, .string s.c.mt, .bool s.c.fo, .int .i64 s.c.aa, .int .i64 s.c.nn, .int .i64 s.c.tt, .string s.c.bb, .int .i64 s.wait, .int .i64 s.vain, V.o, .int .i64 z.nu, .int .i64 z.co, .int .i64 z.a.co, .int .i64 z.a.h1, .int .i64 z.a.h2, .string z.a.b, .int .i64 z.a.i1, .int .i64 z.a.i2, .int .i64 z.a.i3, .int .i64 z.a.i4, .int .i64 z.a.i5, .int .i64 z.a.i6, .int .i64 z.a.i7, .int .i64 z.a.i8, .slice z.a.na z.a.nl z.a.nc] r) HT.out ?_
  clear HT
  rintro W3 hT
  have a5 : W3.cell? ⟨w.heap.size, 5, none⟩ = some (.int .i64 (1)) := hT.a.cell 5
  have a6 : W3.cell? ⟨w.heap.size, 6, none⟩ = some (.int .i64 (s.vol : Nat)) := hT.a.cell 6
  have a0 : W3.cell? ⟨w.heap.size, 0, none⟩ = some (.int .i64 s.cl) := hT.a.cell 0
  have a4 : W3.cell? ⟨w.heap.size, 4, none⟩ = some (.int .i64 s.nu) := hT.a.cell 4
  have a3 : W3.cell? ⟨w.heap.size, 3, none⟩ = some V.g := hT.a.cell 3
  rw [HVG.out] at a3
  have c0 : W3.cell? ⟨w.heap.size + 1, 0, none⟩ = some (.int .i64 r.vol) := hT.r.cell 0
  have c1 : W3.cell? ⟨w.heap.size + 1, 1, none⟩ = some (.int .i64 r.srv) := hT.r.cell 1
  have c2 : W3.cell? ⟨w.heap.size + 1, 2, none⟩ = some (.int .i64 r.cl) := hT.r.cell 2
  have c3 : W3.cell? ⟨w.heap.size + 1, 3, none⟩ = some (.int .i64 r.nu) := hT.r.cell 3
  have gc : W3.cell? ⟨g, s.vol, none⟩ = some (.int .i64 x) := (hT.b.cell (p := ⟨g, s.vol, none⟩) hgl).trans HGC.out
  have hal := hT.a.lt
  have hrl := hT.r.lt
  have hgl3 := World.block_lt_of_cell? _ _ gc
  have HT := Lib.hid hT
  clear hT
  go_quiet (fail)
  go_upto_region 2 with (fail)
  refine wp_name (fun W4 => Tk w W4 #[.int .i64 s.cl, .int .i64 s.pa, V.m, V.g, .int .i64 s.nu, .int .i64 (1), .int .i64 (s.vol : Nat), .int .i64 s.c.cl, .int .i64 s.c.nu, .int .i64 s.c.kd, .int .i64 s.c.h1, .int .i64 s.c.h2, .int .i64 s.c.g1, .int .i64 s.c.g2, .string s.c.nm, .string s.c.ot, .int .i64 s.c.m1, .int .i64 s.c.m2, .int .i64 s.c.m3, .string s.c.mt, .bool s.c.fo, .int .i64 s.c.aa, .int .i64 s.c.nn, .int .i64 s.c.tt, .string s.c.bb, .int .i64 s.wait, .int .i64 s.vain, V.o, .int .i64 z.nu, .int .i64 z.co, .int .i64 z.a.co, .int .i64 z.a.h1, .int .i64 z.a.h2, .string z.a.b, .int .i64 z.a.i1, .int .i64 z.a.i2, .int .i64 z.a.i3, .int .i64 z.a.i4, .int .i64 z.a.i5, .int .i64 z.a.i6, .int .i64 z.a.i7, .int .i64 z.a.i8, .slice z.a.na z.a.nl z.a.nc] r) (HT.out.drewN nq) ?_
  clear HT a5 a6 a0 a4 a3 c0 c1 c2 c3 gc hal hrl hgl3
  rintro W4 hT
  have hal := hT.a.lt
  have hzl := hT.z.lt
  have HT := Lib.hid hT
  clear hT
  go_wp2_with (first | (refine wpList_load_box rfl 46 (.tmp 2) rfl _ 0 rfl HT.out.a (rcs s V (1) z).toList (by kernel_rfl) Try.underlying46 rfl (by kernel_rfl) ?_) | (refine wpList_store_box rfl 46 (.tmp 4) (.tmp 42) rfl rfl _ 0 rfl (rcs s V (1) z).toList rfl HT.out.z (rcs s V (1) z) (by kernel_rfl) (by kernel_rfl) (by kernel_rfl) HONE.out ?_))
  exact ret_c Try.results14 rfl rfl ((HT.out.z.setRow _).load Try.underlying46 rfl (by kernel_rfl)) ⟨rfl, Below.setRow HT.out.b (by omega) _⟩
set_option maxRecDepth 100000 in
set_option maxHeartbeats 8000000 in
theorem rtake_cl (z : Rs) (r : Rp) (h : Rt w V s) (hf : Fit s) (h1 : r.vol = ((s.vol : Nat) : Int)) (h2 : r.cl ≠ s.cl) : Calls Try.prog 14 #[.agg (rcs s V (1) z), .agg (rp r)] w fun e w' => e = .returned (.agg (rcs s V (1) z)) ∧ Below w.heap.size w w' := by
  have HONE := Lib.hid (one_rcs h (1) z)
  have HT := Lib.hid (Tk.new w #[.int .i64 s.cl, .int .i64 s.pa, V.m, V.g, .int .i64 s.nu, .int .i64 (1), .int .i64 (s.vol : Nat), .int .i64 s.c.cl, .int .i64 s.c.nu, .int .i64 s.c.kd, .int .i64 s.c.h1, .int .i64 s.c.h2, .int .i64 s.c.g1, .int .i64 s.c.g2, .string s.c.nm, .string s.c.ot, .int .i64 s.c.m1, .int .i64 s.c.m2, .int .i64 s.c.m3, .string s.c.mt, .bool s.c.fo, .int .i64 s.c.aa, .int .i64 s.c.nn, .int .i64 s.c.tt, .string s.c.bb, .int .i64 s.wait, .int .i64 s.vain, V.o, .int .i64 z.nu, .int .i64 z.co, .int .i64 z.a.co, .int .i64 z.a.h1, .int .i64 z.a.h2, .string z.a.b, .int .i64 z.a.i1, .int .i64 z.a.i2, .int .i64 z.a.i3, .int .i64 z.a.i4, .int .i64 z.a.i5, .int .i64 z.a.i6, .int .i64 z.a.i7, .int .i64 z.a.i8, .slice z.a.na z.a.nl z.a.nc] r)
  obtain ⟨g, cg, hvg, hgl, hvl, hgc⟩ := own_at1r h.rg s.vol (gv s) hf.gat
  obtain ⟨x, hx⟩ : ∃ x, x = gv s := ⟨_, rfl⟩
  rw [← hx] at hgc
  have HGC := Lib.hid hgc
  have HVG := Lib.hid hvg
  have HX := Lib.hid hx
  have k1 : (r.vol != ((s.vol : Nat) : Int)) = false := by simpa using h1
  have k2 : (r.cl != s.cl) = true := by simpa using h2
  clear h1 h2
  clear h hf hvg hx hgc
  go_enter Try.func14, Try.ntmps14
  go_upto_region 1 with (fail)
  refine wp_name (fun W3 => Tk w W3 #[.int .i64 s.cl, .int .i64 s.pa, V.m, V.g, .int .i64 s.nu, .int .i64 (1), .int .i64 (s.vol : Nat), .int .i64 s.c.cl, .int .i64 s.c.nu, .int .i64 s.c.kd, .int .i64 s.c.h1, .int .i64 s.c.h2, .int .i64 s.c.g1, .int .i64 s.c.g2, .string s.c.nm, .string s.c.ot, .int .i64 s.c.m1, .int .i64 s.c.m2, .int .i64 s.c.m3, .string s.c.mt, .bool s.c.fo, .int .i64 s.c.aa, .int .i64 s.c.nn, .int .i64 s.c.tt, .string s.c.bb, .int .i64 s.wait, .int .i64 s.vain, V.o, .int .i64 z.nu, .int .i64 z.co, .int .i64 z.a.co, .int .i64 z.a.h1, .int .i64 z.a.h2, .string z.a.b, .int .i64 z.a.i1, .int .i64 z.a.i2, .int .i64 z.a.i3, .int .i64 z.a.i4, .int .i64 z.a.i5, .int .i64 z.a.i6, .int .i64 z.a.i7, .int .i64 z.a.i8, .slice z.a.na z.a.nl z.a.nc] r) HT.out ?_
  clear HT
  rintro W3 hT
  have a5 : W3.cell? ⟨w.heap.size, 5, none⟩ = some (.int .i64 (1)) := hT.a.cell 5
  have a6 : W3.cell? ⟨w.heap.size, 6, none⟩ = some (.int .i64 (s.vol : Nat)) := hT.a.cell 6
  have a0 : W3.cell? ⟨w.heap.size, 0, none⟩ = some (.int .i64 s.cl) := hT.a.cell 0
  have a4 : W3.cell? ⟨w.heap.size, 4, none⟩ = some (.int .i64 s.nu) := hT.a.cell 4
  have a3 : W3.cell? ⟨w.heap.size, 3, none⟩ = some V.g := hT.a.cell 3
  rw [HVG.out] at a3
  have c0 : W3.cell? ⟨w.heap.size + 1, 0, none⟩ = some (.int .i64 r.vol) := hT.r.cell 0
  have c1 : W3.cell? ⟨w.heap.size + 1, 1, none⟩ = some (.int .i64 r.srv) := hT.r.cell 1
  have c2 : W3.cell? ⟨w.heap.size + 1, 2, none⟩ = some (.int .i64 r.cl) := hT.r.cell 2
  have c3 : W3.cell? ⟨w.heap.size + 1, 3, none⟩ = some (.int .i64 r.nu) := hT.r.cell 3
  have gc : W3.cell? ⟨g, s.vol, none⟩ = some (.int .i64 x) := (hT.b.cell (p := ⟨g, s.vol, none⟩) hgl).trans HGC.out
  have hal := hT.a.lt
  have hrl := hT.r.lt
  have hgl3 := World.block_lt_of_cell? _ _ gc
  have HT := Lib.hid hT
  clear hT
  go_quiet (fail)
  go_upto_region 2 with (fail)
  refine wp_name (fun W4 => Tk w W4 #[.int .i64 s.cl, .int .i64 s.pa, V.m, V.g, .int .i64 s.nu, .int .i64 (1), .int .i64 (s.vol : Nat), .int .i64 s.c.cl, .int .i64 s.c.nu, .int .i64 s.c.kd, .int .i64 s.c.h1, .int .i64 s.c.h2, .int .i64 s.c.g1, .int .i64 s.c.g2, .string s.c.nm, .string s.c.ot, .int .i64 s.c.m1, .int .i64 s.c.m2, .int .i64 s.c.m3, .string s.c.mt, .bool s.c.fo, .int .i64 s.c.aa, .int .i64 s.c.nn, .int .i64 s.c.tt, .string s.c.bb, .int .i64 s.wait, .int .i64 s.vain, V.o, .int .i64 z.nu, .int .i64 z.co, .int .i64 z.a.co, .int .i64 z.a.h1, .int .i64 z.a.h2, .string z.a.b, .int .i64 z.a.i1, .int .i64 z.a.i2, .int .i64 z.a.i3, .int .i64 z.a.i4, .int .i64 z.a.i5, .int .i64 z.a.i6, .int .i64 z.a.i7, .int .i64 z.a.i8, .slice z.a.na z.a.nl z.a.nc] r) (HT.out.drewN nq) ?_
  clear HT a5 a6 a0 a4 a3 c0 c1 c2 c3 gc hal hrl hgl3
  rintro W4 hT
  have hal := hT.a.lt
  have hzl := hT.z.lt
  have HT := Lib.hid hT
  clear hT
  go_wp2_with (first | (refine wpList_load_box rfl 46 (.tmp 2) rfl _ 0 rfl HT.out.a (rcs s V (1) z).toList (by kernel_rfl) Try.underlying46 rfl (by kernel_rfl) ?_) | (refine wpList_store_box rfl 46 (.tmp 4) (.tmp 42) rfl rfl _ 0 rfl (rcs s V (1) z).toList rfl HT.out.z (rcs s V (1) z) (by kernel_rfl) (by kernel_rfl) (by kernel_rfl) HONE.out ?_))
  exact ret_c Try.results14 rfl rfl ((HT.out.z.setRow _).load Try.underlying46 rfl (by kernel_rfl)) ⟨rfl, Below.setRow HT.out.b (by omega) _⟩
set_option maxRecDepth 100000 in
set_option maxHeartbeats 8000000 in
theorem rtake_nu (z : Rs) (r : Rp) (h : Rt w V s) (hf : Fit s) (h1 : r.vol = ((s.vol : Nat) : Int)) (h2 : r.cl = s.cl) (h3 : r.nu ≠ s.nu) : Calls Try.prog 14 #[.agg (rcs s V (1) z), .agg (rp r)] w fun e w' => e = .returned (.agg (rcs s V (1) z)) ∧ Below w.heap.size w w' := by
  have HONE := Lib.hid (one_rcs h (1) z)
  have HT := Lib.hid (Tk.new w #[.int .i64 s.cl, .int .i64 s.pa, V.m, V.g, .int .i64 s.nu, .int .i64 (1), .int .i64 (s.vol : Nat), .int .i64 s.c.cl, .int .i64 s.c.nu, .int .i64 s.c.kd, .int .i64 s.c.h1, .int .i64 s.c.h2, .int .i64 s.c.g1, .int .i64 s.c.g2, .string s.c.nm, .string s.c.ot, .int .i64 s.c.m1, .int .i64 s.c.m2, .int .i64 s.c.m3, .string s.c.mt, .bool s.c.fo, .int .i64 s.c.aa, .int .i64 s.c.nn, .int .i64 s.c.tt, .string s.c.bb, .int .i64 s.wait, .int .i64 s.vain, V.o, .int .i64 z.nu, .int .i64 z.co, .int .i64 z.a.co, .int .i64 z.a.h1, .int .i64 z.a.h2, .string z.a.b, .int .i64 z.a.i1, .int .i64 z.a.i2, .int .i64 z.a.i3, .int .i64 z.a.i4, .int .i64 z.a.i5, .int .i64 z.a.i6, .int .i64 z.a.i7, .int .i64 z.a.i8, .slice z.a.na z.a.nl z.a.nc] r)
  obtain ⟨g, cg, hvg, hgl, hvl, hgc⟩ := own_at1r h.rg s.vol (gv s) hf.gat
  obtain ⟨x, hx⟩ : ∃ x, x = gv s := ⟨_, rfl⟩
  rw [← hx] at hgc
  have HGC := Lib.hid hgc
  have HVG := Lib.hid hvg
  have HX := Lib.hid hx
  have k1 : (r.vol != ((s.vol : Nat) : Int)) = false := by simpa using h1
  have k2 : (r.cl != s.cl) = false := by simpa using h2
  have k3 : (r.nu != s.nu) = true := by simpa using h3
  clear h1 h2 h3
  clear h hf hvg hx hgc
  go_enter Try.func14, Try.ntmps14
  go_upto_region 1 with (fail)
  refine wp_name (fun W3 => Tk w W3 #[.int .i64 s.cl, .int .i64 s.pa, V.m, V.g, .int .i64 s.nu, .int .i64 (1), .int .i64 (s.vol : Nat), .int .i64 s.c.cl, .int .i64 s.c.nu, .int .i64 s.c.kd, .int .i64 s.c.h1, .int .i64 s.c.h2, .int .i64 s.c.g1, .int .i64 s.c.g2, .string s.c.nm, .string s.c.ot, .int .i64 s.c.m1, .int .i64 s.c.m2, .int .i64 s.c.m3, .string s.c.mt, .bool s.c.fo, .int .i64 s.c.aa, .int .i64 s.c.nn, .int .i64 s.c.tt, .string s.c.bb, .int .i64 s.wait, .int .i64 s.vain, V.o, .int .i64 z.nu, .int .i64 z.co, .int .i64 z.a.co, .int .i64 z.a.h1, .int .i64 z.a.h2, .string z.a.b, .int .i64 z.a.i1, .int .i64 z.a.i2, .int .i64 z.a.i3, .int .i64 z.a.i4, .int .i64 z.a.i5, .int .i64 z.a.i6, .int .i64 z.a.i7, .int .i64 z.a.i8, .slice z.a.na z.a.nl z.a.nc] r) HT.out ?_
  clear HT
  rintro W3 hT
  have a5 : W3.cell? ⟨w.heap.size, 5, none⟩ = some (.int .i64 (1)) := hT.a.cell 5
  have a6 : W3.cell? ⟨w.heap.size, 6, none⟩ = some (.int .i64 (s.vol : Nat)) := hT.a.cell 6
  have a0 : W3.cell? ⟨w.heap.size, 0, none⟩ = some (.int .i64 s.cl) := hT.a.cell 0
  have a4 : W3.cell? ⟨w.heap.size, 4, none⟩ = some (.int .i64 s.nu) := hT.a.cell 4
  have a3 : W3.cell? ⟨w.heap.size, 3, none⟩ = some V.g := hT.a.cell 3
  rw [HVG.out] at a3
  have c0 : W3.cell? ⟨w.heap.size + 1, 0, none⟩ = some (.int .i64 r.vol) := hT.r.cell 0
  have c1 : W3.cell? ⟨w.heap.size + 1, 1, none⟩ = some (.int .i64 r.srv) := hT.r.cell 1
  have c2 : W3.cell? ⟨w.heap.size + 1, 2, none⟩ = some (.int .i64 r.cl) := hT.r.cell 2
  have c3 : W3.cell? ⟨w.heap.size + 1, 3, none⟩ = some (.int .i64 r.nu) := hT.r.cell 3
  have gc : W3.cell? ⟨g, s.vol, none⟩ = some (.int .i64 x) := (hT.b.cell (p := ⟨g, s.vol, none⟩) hgl).trans HGC.out
  have hal := hT.a.lt
  have hrl := hT.r.lt
  have hgl3 := World.block_lt_of_cell? _ _ gc
  have HT := Lib.hid hT
  clear hT
  go_quiet (fail)
  go_upto_region 2 with (fail)
  refine wp_name (fun W4 => Tk w W4 #[.int .i64 s.cl, .int .i64 s.pa, V.m, V.g, .int .i64 s.nu, .int .i64 (1), .int .i64 (s.vol : Nat), .int .i64 s.c.cl, .int .i64 s.c.nu, .int .i64 s.c.kd, .int .i64 s.c.h1, .int .i64 s.c.h2, .int .i64 s.c.g1, .int .i64 s.c.g2, .string s.c.nm, .string s.c.ot, .int .i64 s.c.m1, .int .i64 s.c.m2, .int .i64 s.c.m3, .string s.c.mt, .bool s.c.fo, .int .i64 s.c.aa, .int .i64 s.c.nn, .int .i64 s.c.tt, .string s.c.bb, .int .i64 s.wait, .int .i64 s.vain, V.o, .int .i64 z.nu, .int .i64 z.co, .int .i64 z.a.co, .int .i64 z.a.h1, .int .i64 z.a.h2, .string z.a.b, .int .i64 z.a.i1, .int .i64 z.a.i2, .int .i64 z.a.i3, .int .i64 z.a.i4, .int .i64 z.a.i5, .int .i64 z.a.i6, .int .i64 z.a.i7, .int .i64 z.a.i8, .slice z.a.na z.a.nl z.a.nc] r) (HT.out.drewN nq) ?_
  clear HT a5 a6 a0 a4 a3 c0 c1 c2 c3 gc hal hrl hgl3
  rintro W4 hT
  have hal := hT.a.lt
  have hzl := hT.z.lt
  have HT := Lib.hid hT
  clear hT
  go_wp2_with (first | (refine wpList_load_box rfl 46 (.tmp 2) rfl _ 0 rfl HT.out.a (rcs s V (1) z).toList (by kernel_rfl) Try.underlying46 rfl (by kernel_rfl) ?_) | (refine wpList_store_box rfl 46 (.tmp 4) (.tmp 42) rfl rfl _ 0 rfl (rcs s V (1) z).toList rfl HT.out.z (rcs s V (1) z) (by kernel_rfl) (by kernel_rfl) (by kernel_rfl) HONE.out ?_))
  exact ret_c Try.results14 rfl rfl ((HT.out.z.setRow _).load Try.underlying46 rfl (by kernel_rfl)) ⟨rfl, Below.setRow HT.out.b (by omega) _⟩
set_option maxRecDepth 100000 in
set_option maxHeartbeats 8000000 in
theorem rtake_srv (z : Rs) (r : Rp) (h : Rt w V s) (hf : Fit s) (h1 : r.vol = ((s.vol : Nat) : Int)) (h2 : r.cl = s.cl) (h3 : r.nu = s.nu) (h4 : r.srv ≠ gv s) : Calls Try.prog 14 #[.agg (rcs s V (1) z), .agg (rp r)] w fun e w' => e = .returned (.agg (rcs s V (1) z)) ∧ Below w.heap.size w w' := by
  have HONE := Lib.hid (one_rcs h (1) z)
  have HT := Lib.hid (Tk.new w #[.int .i64 s.cl, .int .i64 s.pa, V.m, V.g, .int .i64 s.nu, .int .i64 (1), .int .i64 (s.vol : Nat), .int .i64 s.c.cl, .int .i64 s.c.nu, .int .i64 s.c.kd, .int .i64 s.c.h1, .int .i64 s.c.h2, .int .i64 s.c.g1, .int .i64 s.c.g2, .string s.c.nm, .string s.c.ot, .int .i64 s.c.m1, .int .i64 s.c.m2, .int .i64 s.c.m3, .string s.c.mt, .bool s.c.fo, .int .i64 s.c.aa, .int .i64 s.c.nn, .int .i64 s.c.tt, .string s.c.bb, .int .i64 s.wait, .int .i64 s.vain, V.o, .int .i64 z.nu, .int .i64 z.co, .int .i64 z.a.co, .int .i64 z.a.h1, .int .i64 z.a.h2, .string z.a.b, .int .i64 z.a.i1, .int .i64 z.a.i2, .int .i64 z.a.i3, .int .i64 z.a.i4, .int .i64 z.a.i5, .int .i64 z.a.i6, .int .i64 z.a.i7, .int .i64 z.a.i8, .slice z.a.na z.a.nl z.a.nc] r)
  obtain ⟨g, cg, hvg, hgl, hvl, hgc⟩ := own_at1r h.rg s.vol (gv s) hf.gat
  obtain ⟨x, hx⟩ : ∃ x, x = gv s := ⟨_, rfl⟩
  rw [← hx] at hgc
  have HGC := Lib.hid hgc
  have HVG := Lib.hid hvg
  have HX := Lib.hid hx
  have k1 : (r.vol != ((s.vol : Nat) : Int)) = false := by simpa using h1
  have k2 : (r.cl != s.cl) = false := by simpa using h2
  have k3 : (r.nu != s.nu) = false := by simpa using h3
  have k4 : (r.srv != x) = true := by rw [hx]; simpa using h4
  clear h1 h2 h3 h4
  clear h hf hvg hx hgc
  go_enter Try.func14, Try.ntmps14
  go_upto_region 1 with (fail)
  refine wp_name (fun W3 => Tk w W3 #[.int .i64 s.cl, .int .i64 s.pa, V.m, V.g, .int .i64 s.nu, .int .i64 (1), .int .i64 (s.vol : Nat), .int .i64 s.c.cl, .int .i64 s.c.nu, .int .i64 s.c.kd, .int .i64 s.c.h1, .int .i64 s.c.h2, .int .i64 s.c.g1, .int .i64 s.c.g2, .string s.c.nm, .string s.c.ot, .int .i64 s.c.m1, .int .i64 s.c.m2, .int .i64 s.c.m3, .string s.c.mt, .bool s.c.fo, .int .i64 s.c.aa, .int .i64 s.c.nn, .int .i64 s.c.tt, .string s.c.bb, .int .i64 s.wait, .int .i64 s.vain, V.o, .int .i64 z.nu, .int .i64 z.co, .int .i64 z.a.co, .int .i64 z.a.h1, .int .i64 z.a.h2, .string z.a.b, .int .i64 z.a.i1, .int .i64 z.a.i2, .int .i64 z.a.i3, .int .i64 z.a.i4, .int .i64 z.a.i5, .int .i64 z.a.i6, .int .i64 z.a.i7, .int .i64 z.a.i8, .slice z.a.na z.a.nl z.a.nc] r) HT.out ?_
  clear HT
  rintro W3 hT
  have a5 : W3.cell? ⟨w.heap.size, 5, none⟩ = some (.int .i64 (1)) := hT.a.cell 5
  have a6 : W3.cell? ⟨w.heap.size, 6, none⟩ = some (.int .i64 (s.vol : Nat)) := hT.a.cell 6
  have a0 : W3.cell? ⟨w.heap.size, 0, none⟩ = some (.int .i64 s.cl) := hT.a.cell 0
  have a4 : W3.cell? ⟨w.heap.size, 4, none⟩ = some (.int .i64 s.nu) := hT.a.cell 4
  have a3 : W3.cell? ⟨w.heap.size, 3, none⟩ = some V.g := hT.a.cell 3
  rw [HVG.out] at a3
  have c0 : W3.cell? ⟨w.heap.size + 1, 0, none⟩ = some (.int .i64 r.vol) := hT.r.cell 0
  have c1 : W3.cell? ⟨w.heap.size + 1, 1, none⟩ = some (.int .i64 r.srv) := hT.r.cell 1
  have c2 : W3.cell? ⟨w.heap.size + 1, 2, none⟩ = some (.int .i64 r.cl) := hT.r.cell 2
  have c3 : W3.cell? ⟨w.heap.size + 1, 3, none⟩ = some (.int .i64 r.nu) := hT.r.cell 3
  have gc : W3.cell? ⟨g, s.vol, none⟩ = some (.int .i64 x) := (hT.b.cell (p := ⟨g, s.vol, none⟩) hgl).trans HGC.out
  have hal := hT.a.lt
  have hrl := hT.r.lt
  have hgl3 := World.block_lt_of_cell? _ _ gc
  have HT := Lib.hid hT
  clear hT
  go_quiet (fail)
  go_upto_region 2 with (fail)
  refine wp_name (fun W4 => Tk w W4 #[.int .i64 s.cl, .int .i64 s.pa, V.m, V.g, .int .i64 s.nu, .int .i64 (1), .int .i64 (s.vol : Nat), .int .i64 s.c.cl, .int .i64 s.c.nu, .int .i64 s.c.kd, .int .i64 s.c.h1, .int .i64 s.c.h2, .int .i64 s.c.g1, .int .i64 s.c.g2, .string s.c.nm, .string s.c.ot, .int .i64 s.c.m1, .int .i64 s.c.m2, .int .i64 s.c.m3, .string s.c.mt, .bool s.c.fo, .int .i64 s.c.aa, .int .i64 s.c.nn, .int .i64 s.c.tt, .string s.c.bb, .int .i64 s.wait, .int .i64 s.vain, V.o, .int .i64 z.nu, .int .i64 z.co, .int .i64 z.a.co, .int .i64 z.a.h1, .int .i64 z.a.h2, .string z.a.b, .int .i64 z.a.i1, .int .i64 z.a.i2, .int .i64 z.a.i3, .int .i64 z.a.i4, .int .i64 z.a.i5, .int .i64 z.a.i6, .int .i64 z.a.i7, .int .i64 z.a.i8, .slice z.a.na z.a.nl z.a.nc] r) (HT.out.drewN nq) ?_
  clear HT a5 a6 a0 a4 a3 c0 c1 c2 c3 gc hal hrl hgl3
  rintro W4 hT
  have hal := hT.a.lt
  have hzl := hT.z.lt
  have HT := Lib.hid hT
  clear hT
  go_wp2_with (first | (refine wpList_load_box rfl 46 (.tmp 2) rfl _ 0 rfl HT.out.a (rcs s V (1) z).toList (by kernel_rfl) Try.underlying46 rfl (by kernel_rfl) ?_) | (refine wpList_store_box rfl 46 (.tmp 4) (.tmp 42) rfl rfl _ 0 rfl (rcs s V (1) z).toList rfl HT.out.z (rcs s V (1) z) (by kernel_rfl) (by kernel_rfl) (by kernel_rfl) HONE.out ?_))
  exact ret_c Try.results14 rfl rfl ((HT.out.z.setRow _).load Try.underlying46 rfl (by kernel_rfl)) ⟨rfl, Below.setRow HT.out.b (by omega) _⟩
end Go.Proofs.Ytlkilkndjfcejaa
