/- porter: the document's Take, of a reply that is meant. Conditions: the client is in its bounds. -/
import Derived.Test.YtlkilkndjfcejaaTa
namespace Go.Proofs.Ytlkilkndjfcejaa
open Go Go.RowKit
set_option linter.unusedVariables false
set_option linter.unusedSimpArgs false
variable {w w' : World} {s s' : St} {V V' : Vr}

theorem Tk.drop {W : World} {A : Array Value} {r : Rp} (h : Tk w W A r) : Box W (w.heap.size + 1) 58 (rp r) := h.r
theorem meant_all {r : Rp} (hm : meantB s r = true) : s.busy = true ∧ r.vol = (s.vol : Nat) ∧ r.srv = gv s ∧ r.cl = s.cl ∧ r.nu = s.nu := by
  simp only [meantB, Bool.and_eq_true, beq_iff_eq] at hm
  exact ⟨hm.1.1.1.1, hm.1.1.1.2, hm.1.1.2, hm.1.2, hm.2⟩
set_option maxRecDepth 100000 in
set_option maxHeartbeats 8000000 in
theorem rtake_190 (z : Rs) (r : Rp) (h : Rt w V s) (ho : Okay s) (hl : s.out.length ≤ 500) (hm : meantB s r = true) (hc : r.co = 190) : Calls Try.prog 14 #[.agg (rcs s V (phS s) z), .agg (rp r)] w (Gives w V (takeS s r) (phS (takeS s r))) := by
  obtain ⟨m1, m2, m3, m4, m5⟩ := meant_all hm
  have hf := ho.fit
  obtain ⟨b1, b2, b3⟩ := ho.busy m1
  have hp1 : phS s = 1 := by rw [phS, m1]; rfl
  rw [hp1]
  have HONE := Lib.hid (one_rcs h (1) z)
  have HT := Lib.hid (Tk.new w #[.int .i64 s.cl, .int .i64 s.pa, V.m, V.g, .int .i64 s.nu, .int .i64 (1), .int .i64 (s.vol : Nat), .int .i64 s.c.cl, .int .i64 s.c.nu, .int .i64 s.c.kd, .int .i64 s.c.h1, .int .i64 s.c.h2, .int .i64 s.c.g1, .int .i64 s.c.g2, .string s.c.nm, .string s.c.ot, .int .i64 s.c.m1, .int .i64 s.c.m2, .int .i64 s.c.m3, .string s.c.mt, .bool s.c.fo, .int .i64 s.c.aa, .int .i64 s.c.nn, .int .i64 s.c.tt, .string s.c.bb, .int .i64 s.wait, .int .i64 s.vain, V.o, .int .i64 z.nu, .int .i64 z.co, .int .i64 z.a.co, .int .i64 z.a.h1, .int .i64 z.a.h2, .string z.a.b, .int .i64 z.a.i1, .int .i64 z.a.i2, .int .i64 z.a.i3, .int .i64 z.a.i4, .int .i64 z.a.i5, .int .i64 z.a.i6, .int .i64 z.a.i7, .int .i64 z.a.i8, .slice z.a.na z.a.nl z.a.nc] r)
  obtain ⟨g, cg, hvg, hgl, hvl, hgc⟩ := own_at1r h.rg s.vol (gv s) hf.gat
  obtain ⟨x, hx⟩ : ∃ x, x = gv s := ⟨_, rfl⟩
  rw [← hx] at hgc
  have HGC := Lib.hid hgc
  have HVG := Lib.hid hvg
  have HX := Lib.hid hx
  have k1 : (r.vol != ((s.vol : Nat) : Int)) = false := by simpa using m2
  have k2 : (r.cl != s.cl) = false := by simpa using m4
  have k3 : (r.nu != s.nu) = false := by simpa using m5
  have k4 : (r.srv != x) = false := by rw [hx]; simpa using m3
  have HR := Lib.hid h
  have HF := Lib.hid hf
  have HB := Lib.hid m1
  have HD := Lib.hid b3
  have HP := Lib.hid hp1
  have HC := Lib.hid hc
  have HM := Lib.hid hm
  have HV := Lib.hid hvg
  clear h hf ho hm hvg hx hgc m1 m2 m3 m4 m5 b2 b3 hp1 hc
  go_enter Try.func14, Try.ntmps14
  go_upto_region 1 with (fail)
  refine wp_name (fun W3 => Tk w W3 #[.int .i64 s.cl, .int .i64 s.pa, V.m, V.g, .int .i64 s.nu, .int .i64 (1), .int .i64 (s.vol : Nat), .int .i64 s.c.cl, .int .i64 s.c.nu, .int .i64 s.c.kd, .int .i64 s.c.h1, .int .i64 s.c.h2, .int .i64 s.c.g1, .int .i64 s.c.g2, .string s.c.nm, .string s.c.ot, .int .i64 s.c.m1, .int .i64 s.c.m2, .int .i64 s.c.m3, .string s.c.mt, .bool s.c.fo, .int .i64 s.c.aa, .int .i64 s.c.nn, .int .i64 s.c.tt, .string s.c.bb, .int .i64 s.wait, .int .i64 s.vain, V.o, .int .i64 z.nu, .int .i64 z.co, .int .i64 z.a.co, .int .i64 z.a.h1, .int .i64 z.a.h2, .string z.a.b, .int .i64 z.a.i1, .int .i64 z.a.i2, .int .i64 z.a.i3, .int .i64 z.a.i4, .int .i64 z.a.i5, .int .i64 z.a.i6, .int .i64 z.a.i7, .int .i64 z.a.i8, .slice z.a.na z.a.nl z.a.nc] r) HT.out ?_
  clear HT
  rintro W3 hT
  have a5 : W3.cell? ⟨w.heap.size, 5, none⟩ = some (.int .i64 (1)) := hT.a.cell 5
  have a6 : W3.cell? ⟨w.heap.size, 6, none⟩ = some (.int .i64 (s.vol : Nat)) := hT.a.cell 6
  have a0 : W3.cell? ⟨w.heap.size, 0, none⟩ = some (.int .i64 s.cl) := hT.a.cell 0
  have a4 : W3.cell? ⟨w.heap.size, 4, none⟩ = some (.int .i64 s.nu) := hT.a.cell 4
  have a3 : W3.cell? ⟨w.heap.size, 3, none⟩ = some V.g := hT.a.cell 3
  rw [HVG.out] at a3
  have c0 : W3.cell? ⟨w.heap.size + 1, 0, none⟩ = some (.int .i64 r.vol) := hT.r.cell 0
  have c1 : W3.cell? ⟨w.heap.size + 1, 1, none⟩ = some (.int .i64 r.srv) := hT.r.cell 1
  have c2 : W3.cell? ⟨w.heap.size + 1, 2, none⟩ = some (.int .i64 r.cl) := hT.r.cell 2
  have c3 : W3.cell? ⟨w.heap.size + 1, 3, none⟩ = some (.int .i64 r.nu) := hT.r.cell 3
  have gc : W3.cell? ⟨g, s.vol, none⟩ = some (.int .i64 x) := (hT.b.cell (p := ⟨g, s.vol, none⟩) hgl).trans HGC.out
  have hal := hT.a.lt
  have hrl := hT.r.lt
  have hgl3 := World.block_lt_of_cell? _ _ gc
  have HT := Lib.hid hT
  clear hT
  go_quiet (fail)
  go_upto_region 3 with (fail)
  refine wp_name (fun W4 => Tk w W4 #[.int .i64 s.cl, .int .i64 s.pa, V.m, V.g, .int .i64 s.nu, .int .i64 (1), .int .i64 (s.vol : Nat), .int .i64 s.c.cl, .int .i64 s.c.nu, .int .i64 s.c.kd, .int .i64 s.c.h1, .int .i64 s.c.h2, .int .i64 s.c.g1, .int .i64 s.c.g2, .string s.c.nm, .string s.c.ot, .int .i64 s.c.m1, .int .i64 s.c.m2, .int .i64 s.c.m3, .string s.c.mt, .bool s.c.fo, .int .i64 s.c.aa, .int .i64 s.c.nn, .int .i64 s.c.tt, .string s.c.bb, .int .i64 s.wait, .int .i64 s.vain, V.o, .int .i64 z.nu, .int .i64 z.co, .int .i64 z.a.co, .int .i64 z.a.h1, .int .i64 z.a.h2, .string z.a.b, .int .i64 z.a.i1, .int .i64 z.a.i2, .int .i64 z.a.i3, .int .i64 z.a.i4, .int .i64 z.a.i5, .int .i64 z.a.i6, .int .i64 z.a.i7, .int .i64 z.a.i8, .slice z.a.na z.a.nl z.a.nc] r) (HT.out.drewN nq) ?_
  clear HT a5 a6 a0 a4 a3 c0 c1 c2 c3 gc hal hrl hgl3
  rintro W4 hT
  have c4 : W4.cell? ⟨w.heap.size + 1, 4, none⟩ = some (.int .i64 r.co) := hT.r.cell 4
  rw [HC.out] at c4
  have hal := hT.a.lt
  have hrl := hT.r.lt
  have hzl := hT.z.lt
  have HT := Lib.hid hT
  clear hT
  go_wp2_with (refine wpList_load_box rfl 46 (.tmp 2) rfl _ 0 rfl HT.out.a (rcs s V 1 z).toList (by kernel_rfl) Try.underlying46 rfl (by kernel_rfl) ?_)
  have C := Lib.hid (ron_any z (HR.out.below HT.out.b) HF.out HB.out hl HD.out)
  rw [HP.out] at C
  refine C.out.mono ?_
  rintro e w9 ⟨V2, z2, rfl, hz2, hR9, hT9⟩
  obtain ⟨p2, hp2e⟩ : ∃ p2, p2 = phS (onS s) := ⟨_, rfl⟩
  rw [← hp2e]
  have HZ9 := Lib.hid (HT.out.z.below hT9.below HT.out.z.lt)
  have B9 := Lib.hid (HT.out.b.trans (hT9.below.mono HT.out.b.size))
  have HONE9 := Lib.hid (one_rcs hR9 p2 z2)
  have HR9 := Lib.hid hR9
  have HT9 := Lib.hid hT9
  have HP2E := Lib.hid hp2e
  have HZ2 := Lib.hid hz2
  have hal9 := HZ9.out.lt
  clear hR9 hT9 hp2e hz2 C c4 hal hrl hzl
  go_wp2_with (refine wpList_store_box rfl 46 (.tmp 4) (.tmp 60) rfl rfl _ 0 rfl (rcs (onS s) V2 p2 z2).toList rfl HZ9.out (rcs (onS s) V2 p2 z2) (by kernel_rfl) (by kernel_rfl) (by kernel_rfl) HONE9.out ?_)
  have BF := Below.setRow B9.out (g := w.heap.size + 1 + 1) (by omega) (rcs (onS s) V2 p2 z2)
  have HTS : takeS s r = onS s := by rw [takeS, if_pos HM.out, if_pos (.inl HC.out)]
  refine ret_c Try.results14 rfl rfl ((HZ9.out.setRow _).load Try.underlying46 rfl (by kernel_rfl)) ?_
  rw [HTS]
  refine ⟨V2, z2, by rw [HP2E.out], HZ2.out, Rt.final HR.out HR9.out HT9.out.m (onS_many s) BF HZ9.out, ⟨BF, HT9.out.m, fun k hk => ?_, fun k hk => ?_⟩⟩
  · rcases HT9.out.g k hk with h1 | h1
    · exact .inl h1
    · exact .inr (Nat.le_trans HT.out.b.size h1)
  · rcases HT9.out.o k hk with h1 | h1
    · exact .inl h1
    · exact .inr (Nat.le_trans HT.out.b.size h1)
set_option maxRecDepth 100000 in
set_option maxHeartbeats 8000000 in
theorem rtake_191 (z : Rs) (r : Rp) (h : Rt w V s) (ho : Okay s) (hl : s.out.length ≤ 500) (hm : meantB s r = true) (hc : r.co = 191) : Calls Try.prog 14 #[.agg (rcs s V (phS s) z), .agg (rp r)] w (Gives w V (takeS s r) (phS (takeS s r))) := by
  obtain ⟨m1, m2, m3, m4, m5⟩ := meant_all hm
  have hf := ho.fit
  obtain ⟨b1, b2, b3⟩ := ho.busy m1
  have hp1 : phS s = 1 := by rw [phS, m1]; rfl
  rw [hp1]
  have HONE := Lib.hid (one_rcs h (1) z)
  have HT := Lib.hid (Tk.new w #[.int .i64 s.cl, .int .i64 s.pa, V.m, V.g, .int .i64 s.nu, .int .i64 (1), .int .i64 (s.vol : Nat), .int .i64 s.c.cl, .int .i64 s.c.nu, .int .i64 s.c.kd, .int .i64 s.c.h1, .int .i64 s.c.h2, .int .i64 s.c.g1, .int .i64 s.c.g2, .string s.c.nm, .string s.c.ot, .int .i64 s.c.m1, .int .i64 s.c.m2, .int .i64 s.c.m3, .string s.c.mt, .bool s.c.fo, .int .i64 s.c.aa, .int .i64 s.c.nn, .int .i64 s.c.tt, .string s.c.bb, .int .i64 s.wait, .int .i64 s.vain, V.o, .int .i64 z.nu, .int .i64 z.co, .int .i64 z.a.co, .int .i64 z.a.h1, .int .i64 z.a.h2, .string z.a.b, .int .i64 z.a.i1, .int .i64 z.a.i2, .int .i64 z.a.i3, .int .i64 z.a.i4, .int .i64 z.a.i5, .int .i64 z.a.i6, .int .i64 z.a.i7, .int .i64 z.a.i8, .slice z.a.na z.a.nl z.a.nc] r)
  obtain ⟨g, cg, hvg, hgl, hvl, hgc⟩ := own_at1r h.rg s.vol (gv s) hf.gat
  obtain ⟨x, hx⟩ : ∃ x, x = gv s := ⟨_, rfl⟩
  rw [← hx] at hgc
  have HGC := Lib.hid hgc
  have HVG := Lib.hid hvg
  have HX := Lib.hid hx
  have k1 : (r.vol != ((s.vol : Nat) : Int)) = false := by simpa using m2
  have k2 : (r.cl != s.cl) = false := by simpa using m4
  have k3 : (r.nu != s.nu) = false := by simpa using m5
  have k4 : (r.srv != x) = false := by rw [hx]; simpa using m3
  have HR := Lib.hid h
  have HF := Lib.hid hf
  have HB := Lib.hid m1
  have HD := Lib.hid b3
  have HP := Lib.hid hp1
  have HC := Lib.hid hc
  have HM := Lib.hid hm
  have HV := Lib.hid hvg
  clear h hf ho hm hvg hx hgc m1 m2 m3 m4 m5 b2 b3 hp1 hc
  go_enter Try.func14, Try.ntmps14
  go_upto_region 1 with (fail)
  refine wp_name (fun W3 => Tk w W3 #[.int .i64 s.cl, .int .i64 s.pa, V.m, V.g, .int .i64 s.nu, .int .i64 (1), .int .i64 (s.vol : Nat), .int .i64 s.c.cl, .int .i64 s.c.nu, .int .i64 s.c.kd, .int .i64 s.c.h1, .int .i64 s.c.h2, .int .i64 s.c.g1, .int .i64 s.c.g2, .string s.c.nm, .string s.c.ot, .int .i64 s.c.m1, .int .i64 s.c.m2, .int .i64 s.c.m3, .string s.c.mt, .bool s.c.fo, .int .i64 s.c.aa, .int .i64 s.c.nn, .int .i64 s.c.tt, .string s.c.bb, .int .i64 s.wait, .int .i64 s.vain, V.o, .int .i64 z.nu, .int .i64 z.co, .int .i64 z.a.co, .int .i64 z.a.h1, .int .i64 z.a.h2, .string z.a.b, .int .i64 z.a.i1, .int .i64 z.a.i2, .int .i64 z.a.i3, .int .i64 z.a.i4, .int .i64 z.a.i5, .int .i64 z.a.i6, .int .i64 z.a.i7, .int .i64 z.a.i8, .slice z.a.na z.a.nl z.a.nc] r) HT.out ?_
  clear HT
  rintro W3 hT
  have a5 : W3.cell? ⟨w.heap.size, 5, none⟩ = some (.int .i64 (1)) := hT.a.cell 5
  have a6 : W3.cell? ⟨w.heap.size, 6, none⟩ = some (.int .i64 (s.vol : Nat)) := hT.a.cell 6
  have a0 : W3.cell? ⟨w.heap.size, 0, none⟩ = some (.int .i64 s.cl) := hT.a.cell 0
  have a4 : W3.cell? ⟨w.heap.size, 4, none⟩ = some (.int .i64 s.nu) := hT.a.cell 4
  have a3 : W3.cell? ⟨w.heap.size, 3, none⟩ = some V.g := hT.a.cell 3
  rw [HVG.out] at a3
  have c0 : W3.cell? ⟨w.heap.size + 1, 0, none⟩ = some (.int .i64 r.vol) := hT.r.cell 0
  have c1 : W3.cell? ⟨w.heap.size + 1, 1, none⟩ = some (.int .i64 r.srv) := hT.r.cell 1
  have c2 : W3.cell? ⟨w.heap.size + 1, 2, none⟩ = some (.int .i64 r.cl) := hT.r.cell 2
  have c3 : W3.cell? ⟨w.heap.size + 1, 3, none⟩ = some (.int .i64 r.nu) := hT.r.cell 3
  have gc : W3.cell? ⟨g, s.vol, none⟩ = some (.int .i64 x) := (hT.b.cell (p := ⟨g, s.vol, none⟩) hgl).trans HGC.out
  have hal := hT.a.lt
  have hrl := hT.r.lt
  have hgl3 := World.block_lt_of_cell? _ _ gc
  have HT := Lib.hid hT
  clear hT
  go_quiet (fail)
  go_upto_region 3 with (fail)
  refine wp_name (fun W4 => Tk w W4 #[.int .i64 s.cl, .int .i64 s.pa, V.m, V.g, .int .i64 s.nu, .int .i64 (1), .int .i64 (s.vol : Nat), .int .i64 s.c.cl, .int .i64 s.c.nu, .int .i64 s.c.kd, .int .i64 s.c.h1, .int .i64 s.c.h2, .int .i64 s.c.g1, .int .i64 s.c.g2, .string s.c.nm, .string s.c.ot, .int .i64 s.c.m1, .int .i64 s.c.m2, .int .i64 s.c.m3, .string s.c.mt, .bool s.c.fo, .int .i64 s.c.aa, .int .i64 s.c.nn, .int .i64 s.c.tt, .string s.c.bb, .int .i64 s.wait, .int .i64 s.vain, V.o, .int .i64 z.nu, .int .i64 z.co, .int .i64 z.a.co, .int .i64 z.a.h1, .int .i64 z.a.h2, .string z.a.b, .int .i64 z.a.i1, .int .i64 z.a.i2, .int .i64 z.a.i3, .int .i64 z.a.i4, .int .i64 z.a.i5, .int .i64 z.a.i6, .int .i64 z.a.i7, .int .i64 z.a.i8, .slice z.a.na z.a.nl z.a.nc] r) (HT.out.drewN nq) ?_
  clear HT a5 a6 a0 a4 a3 c0 c1 c2 c3 gc hal hrl hgl3
  rintro W4 hT
  have c4 : W4.cell? ⟨w.heap.size + 1, 4, none⟩ = some (.int .i64 r.co) := hT.r.cell 4
  rw [HC.out] at c4
  have hal := hT.a.lt
  have hrl := hT.r.lt
  have hzl := hT.z.lt
  have HT := Lib.hid hT
  clear hT
  go_wp2_with (refine wpList_load_box rfl 46 (.tmp 2) rfl _ 0 rfl HT.out.a (rcs s V 1 z).toList (by kernel_rfl) Try.underlying46 rfl (by kernel_rfl) ?_)
  have C := Lib.hid (ron_any z (HR.out.below HT.out.b) HF.out HB.out hl HD.out)
  rw [HP.out] at C
  refine C.out.mono ?_
  rintro e w9 ⟨V2, z2, rfl, hz2, hR9, hT9⟩
  obtain ⟨p2, hp2e⟩ : ∃ p2, p2 = phS (onS s) := ⟨_, rfl⟩
  rw [← hp2e]
  have HZ9 := Lib.hid (HT.out.z.below hT9.below HT.out.z.lt)
  have B9 := Lib.hid (HT.out.b.trans (hT9.below.mono HT.out.b.size))
  have HONE9 := Lib.hid (one_rcs hR9 p2 z2)
  have HR9 := Lib.hid hR9
  have HT9 := Lib.hid hT9
  have HP2E := Lib.hid hp2e
  have HZ2 := Lib.hid hz2
  have hal9 := HZ9.out.lt
  clear hR9 hT9 hp2e hz2 C c4 hal hrl hzl
  go_wp2_with (refine wpList_store_box rfl 46 (.tmp 4) (.tmp 60) rfl rfl _ 0 rfl (rcs (onS s) V2 p2 z2).toList rfl HZ9.out (rcs (onS s) V2 p2 z2) (by kernel_rfl) (by kernel_rfl) (by kernel_rfl) HONE9.out ?_)
  have BF := Below.setRow B9.out (g := w.heap.size + 1 + 1) (by omega) (rcs (onS s) V2 p2 z2)
  have HTS : takeS s r = onS s := by rw [takeS, if_pos HM.out, if_pos (.inr (.inl HC.out))]
  refine ret_c Try.results14 rfl rfl ((HZ9.out.setRow _).load Try.underlying46 rfl (by kernel_rfl)) ?_
  rw [HTS]
  refine ⟨V2, z2, by rw [HP2E.out], HZ2.out, Rt.final HR.out HR9.out HT9.out.m (onS_many s) BF HZ9.out, ⟨BF, HT9.out.m, fun k hk => ?_, fun k hk => ?_⟩⟩
  · rcases HT9.out.g k hk with h1 | h1
    · exact .inl h1
    · exact .inr (Nat.le_trans HT.out.b.size h1)
  · rcases HT9.out.o k hk with h1 | h1
    · exact .inl h1
    · exact .inr (Nat.le_trans HT.out.b.size h1)
set_option maxRecDepth 100000 in
set_option maxHeartbeats 8000000 in
theorem rtake_210 (z : Rs) (r : Rp) (h : Rt w V s) (ho : Okay s) (hl : s.out.length ≤ 500) (hm : meantB s r = true) (hc : r.co = 210) : Calls Try.prog 14 #[.agg (rcs s V (phS s) z), .agg (rp r)] w (Gives w V (takeS s r) (phS (takeS s r))) := by
  obtain ⟨m1, m2, m3, m4, m5⟩ := meant_all hm
  have hf := ho.fit
  obtain ⟨b1, b2, b3⟩ := ho.busy m1
  have hp1 : phS s = 1 := by rw [phS, m1]; rfl
  rw [hp1]
  have HONE := Lib.hid (one_rcs h (1) z)
  have HT := Lib.hid (Tk.new w #[.int .i64 s.cl, .int .i64 s.pa, V.m, V.g, .int .i64 s.nu, .int .i64 (1), .int .i64 (s.vol : Nat), .int .i64 s.c.cl, .int .i64 s.c.nu, .int .i64 s.c.kd, .int .i64 s.c.h1, .int .i64 s.c.h2, .int .i64 s.c.g1, .int .i64 s.c.g2, .string s.c.nm, .string s.c.ot, .int .i64 s.c.m1, .int .i64 s.c.m2, .int .i64 s.c.m3, .string s.c.mt, .bool s.c.fo, .int .i64 s.c.aa, .int .i64 s.c.nn, .int .i64 s.c.tt, .string s.c.bb, .int .i64 s.wait, .int .i64 s.vain, V.o, .int .i64 z.nu, .int .i64 z.co, .int .i64 z.a.co, .int .i64 z.a.h1, .int .i64 z.a.h2, .string z.a.b, .int .i64 z.a.i1, .int .i64 z.a.i2, .int .i64 z.a.i3, .int .i64 z.a.i4, .int .i64 z.a.i5, .int .i64 z.a.i6, .int .i64 z.a.i7, .int .i64 z.a.i8, .slice z.a.na z.a.nl z.a.nc] r)
  obtain ⟨g, cg, hvg, hgl, hvl, hgc⟩ := own_at1r h.rg s.vol (gv s) hf.gat
  obtain ⟨x, hx⟩ : ∃ x, x = gv s := ⟨_, rfl⟩
  rw [← hx] at hgc
  have HGC := Lib.hid hgc
  have HVG := Lib.hid hvg
  have HX := Lib.hid hx
  have k1 : (r.vol != ((s.vol : Nat) : Int)) = false := by simpa using m2
  have k2 : (r.cl != s.cl) = false := by simpa using m4
  have k3 : (r.nu != s.nu) = false := by simpa using m5
  have k4 : (r.srv != x) = false := by rw [hx]; simpa using m3
  have HR := Lib.hid h
  have HF := Lib.hid hf
  have HB := Lib.hid m1
  have HD := Lib.hid b3
  have HP := Lib.hid hp1
  have HC := Lib.hid hc
  have HM := Lib.hid hm
  have HV := Lib.hid hvg
  clear h hf ho hm hvg hx hgc m1 m2 m3 m4 m5 b2 b3 hp1 hc
  go_enter Try.func14, Try.ntmps14
  go_upto_region 1 with (fail)
  refine wp_name (fun W3 => Tk w W3 #[.int .i64 s.cl, .int .i64 s.pa, V.m, V.g, .int .i64 s.nu, .int .i64 (1), .int .i64 (s.vol : Nat), .int .i64 s.c.cl, .int .i64 s.c.nu, .int .i64 s.c.kd, .int .i64 s.c.h1, .int .i64 s.c.h2, .int .i64 s.c.g1, .int .i64 s.c.g2, .string s.c.nm, .string s.c.ot, .int .i64 s.c.m1, .int .i64 s.c.m2, .int .i64 s.c.m3, .string s.c.mt, .bool s.c.fo, .int .i64 s.c.aa, .int .i64 s.c.nn, .int .i64 s.c.tt, .string s.c.bb, .int .i64 s.wait, .int .i64 s.vain, V.o, .int .i64 z.nu, .int .i64 z.co, .int .i64 z.a.co, .int .i64 z.a.h1, .int .i64 z.a.h2, .string z.a.b, .int .i64 z.a.i1, .int .i64 z.a.i2, .int .i64 z.a.i3, .int .i64 z.a.i4, .int .i64 z.a.i5, .int .i64 z.a.i6, .int .i64 z.a.i7, .int .i64 z.a.i8, .slice z.a.na z.a.nl z.a.nc] r) HT.out ?_
  clear HT
  rintro W3 hT
  have a5 : W3.cell? ⟨w.heap.size, 5, none⟩ = some (.int .i64 (1)) := hT.a.cell 5
  have a6 : W3.cell? ⟨w.heap.size, 6, none⟩ = some (.int .i64 (s.vol : Nat)) := hT.a.cell 6
  have a0 : W3.cell? ⟨w.heap.size, 0, none⟩ = some (.int .i64 s.cl) := hT.a.cell 0
  have a4 : W3.cell? ⟨w.heap.size, 4, none⟩ = some (.int .i64 s.nu) := hT.a.cell 4
  have a3 : W3.cell? ⟨w.heap.size, 3, none⟩ = some V.g := hT.a.cell 3
  rw [HVG.out] at a3
  have c0 : W3.cell? ⟨w.heap.size + 1, 0, none⟩ = some (.int .i64 r.vol) := hT.r.cell 0
  have c1 : W3.cell? ⟨w.heap.size + 1, 1, none⟩ = some (.int .i64 r.srv) := hT.r.cell 1
  have c2 : W3.cell? ⟨w.heap.size + 1, 2, none⟩ = some (.int .i64 r.cl) := hT.r.cell 2
  have c3 : W3.cell? ⟨w.heap.size + 1, 3, none⟩ = some (.int .i64 r.nu) := hT.r.cell 3
  have gc : W3.cell? ⟨g, s.vol, none⟩ = some (.int .i64 x) := (hT.b.cell (p := ⟨g, s.vol, none⟩) hgl).trans HGC.out
  have hal := hT.a.lt
  have hrl := hT.r.lt
  have hgl3 := World.block_lt_of_cell? _ _ gc
  have HT := Lib.hid hT
  clear hT
  go_quiet (fail)
  go_upto_region 3 with (fail)
  refine wp_name (fun W4 => Tk w W4 #[.int .i64 s.cl, .int .i64 s.pa, V.m, V.g, .int .i64 s.nu, .int .i64 (1), .int .i64 (s.vol : Nat), .int .i64 s.c.cl, .int .i64 s.c.nu, .int .i64 s.c.kd, .int .i64 s.c.h1, .int .i64 s.c.h2, .int .i64 s.c.g1, .int .i64 s.c.g2, .string s.c.nm, .string s.c.ot, .int .i64 s.c.m1, .int .i64 s.c.m2, .int .i64 s.c.m3, .string s.c.mt, .bool s.c.fo, .int .i64 s.c.aa, .int .i64 s.c.nn, .int .i64 s.c.tt, .string s.c.bb, .int .i64 s.wait, .int .i64 s.vain, V.o, .int .i64 z.nu, .int .i64 z.co, .int .i64 z.a.co, .int .i64 z.a.h1, .int .i64 z.a.h2, .string z.a.b, .int .i64 z.a.i1, .int .i64 z.a.i2, .int .i64 z.a.i3, .int .i64 z.a.i4, .int .i64 z.a.i5, .int .i64 z.a.i6, .int .i64 z.a.i7, .int .i64 z.a.i8, .slice z.a.na z.a.nl z.a.nc] r) (HT.out.drewN nq) ?_
  clear HT a5 a6 a0 a4 a3 c0 c1 c2 c3 gc hal hrl hgl3
  rintro W4 hT
  have c4 : W4.cell? ⟨w.heap.size + 1, 4, none⟩ = some (.int .i64 r.co) := hT.r.cell 4
  rw [HC.out] at c4
  have hal := hT.a.lt
  have hrl := hT.r.lt
  have hzl := hT.z.lt
  have HT := Lib.hid hT
  clear hT
  go_wp2_with (refine wpList_load_box rfl 46 (.tmp 2) rfl _ 0 rfl HT.out.a (rcs s V 1 z).toList (by kernel_rfl) Try.underlying46 rfl (by kernel_rfl) ?_)
  have C := Lib.hid (ron_any z (HR.out.below HT.out.b) HF.out HB.out hl HD.out)
  rw [HP.out] at C
  refine C.out.mono ?_
  rintro e w9 ⟨V2, z2, rfl, hz2, hR9, hT9⟩
  obtain ⟨p2, hp2e⟩ : ∃ p2, p2 = phS (onS s) := ⟨_, rfl⟩
  rw [← hp2e]
  have HZ9 := Lib.hid (HT.out.z.below hT9.below HT.out.z.lt)
  have B9 := Lib.hid (HT.out.b.trans (hT9.below.mono HT.out.b.size))
  have HONE9 := Lib.hid (one_rcs hR9 p2 z2)
  have HR9 := Lib.hid hR9
  have HT9 := Lib.hid hT9
  have HP2E := Lib.hid hp2e
  have HZ2 := Lib.hid hz2
  have hal9 := HZ9.out.lt
  clear hR9 hT9 hp2e hz2 C c4 hal hrl hzl
  go_wp2_with (refine wpList_store_box rfl 46 (.tmp 4) (.tmp 60) rfl rfl _ 0 rfl (rcs (onS s) V2 p2 z2).toList rfl HZ9.out (rcs (onS s) V2 p2 z2) (by kernel_rfl) (by kernel_rfl) (by kernel_rfl) HONE9.out ?_)
  have BF := Below.setRow B9.out (g := w.heap.size + 1 + 1) (by omega) (rcs (onS s) V2 p2 z2)
  have HTS : takeS s r = onS s := by rw [takeS, if_pos HM.out, if_pos (.inr (.inr HC.out))]
  refine ret_c Try.results14 rfl rfl ((HZ9.out.setRow _).load Try.underlying46 rfl (by kernel_rfl)) ?_
  rw [HTS]
  refine ⟨V2, z2, by rw [HP2E.out], HZ2.out, Rt.final HR.out HR9.out HT9.out.m (onS_many s) BF HZ9.out, ⟨BF, HT9.out.m, fun k hk => ?_, fun k hk => ?_⟩⟩
  · rcases HT9.out.g k hk with h1 | h1
    · exact .inl h1
    · exact .inr (Nat.le_trans HT.out.b.size h1)
  · rcases HT9.out.o k hk with h1 | h1
    · exact .inl h1
    · exact .inr (Nat.le_trans HT.out.b.size h1)
end Go.Proofs.Ytlkilkndjfcejaa
