/- porter: the document's on, an unanswered call goes on. Conditions: the client is in its bounds. -/
import Derived.Test.YtlkilkndjfcejaaRc
namespace Go.Proofs.Ytlkilkndjfcejaa
open Go Go.RowKit
set_option linter.unusedVariables false
set_option linter.unusedSimpArgs false
variable {w w' : World} {s s' : St} {V V' : Vr}

theorem Rt.final {w9 : World} {V2 : Vr} {s2 : St} {b : Nat} {cs new : Array Value} (h0 : Rt w V s) (hR : Rt w9 V2 s2) (hm : V2.m = V.m) (hmm : s2.many = s.many) (hB : Below w.heap.size w (w9.setRow b new)) (hb : Box w9 b 46 cs) : Rt (w9.setRow b new) V2 s2 := by
  refine ⟨?_, own_stays hR.rg fun k hk => Go.setRow_other _ _ _ _ (by rintro rfl; exact own_box_ne hR.rg hb (by decide) hk), own_stays hR.ro fun k hk => Go.setRow_other _ _ _ _ (by rintro rfl; exact own_box_ne hR.ro hb (by decide) hk)⟩
  obtain ⟨a, len, cap, e, hi⟩ := (h0.below hB).rm
  exact ⟨a, len, cap, by rw [hm, e], by rw [hmm]; exact hi⟩
set_option maxRecDepth 100000 in
set_option maxHeartbeats 8000000 in
theorem ron_more (z : Rs) (ph : Int) (h : Rt w V s) (hf : Fit s) (hl : s.out.length ≤ 500) (hv : ¬ 3 * mv s ≤ s.vain + 1) : Calls Try.prog 32 #[.agg (rcs s V ph z)] w fun e w' => ∃ V', e = .returned (.agg (rcs (onS s) V' ph z)) ∧ Rt w' V' (onS s) ∧ RTo w w' V V' := by
  obtain ⟨s1, hs1⟩ : ∃ s1 : St, s1 = { s with vain := s.vain + 1, guess := s.guess.set s.vol ((gv s + 1) % mv s) } := ⟨_, rfl⟩
  have hon : onS s = askS s1 := by rw [hs1, onS, if_neg hv]
  have hf1 : Fit s1 := by
    have hm := hf.mv_in
    have h1 := hf.vain0
    rw [hs1]
    exact ⟨by show (s.guess.set _ _).length = _; rw [List.length_set]; exact hf.len, hf.few, hf.vol, hf.many, set_guess hf.guess _ (fun m hm' => by
      rw [hf.mat] at hm'
      obtain rfl := Option.some.inj hm'
      exact mod_in hf.gv_in), hf.nu0, hf.nu1, hf.wait0, hf.wait1, hf.pa0, hf.pa, by show (0 : Int) ≤ s.vain + 1; omega, by show s.vain + 1 ≤ 21; omega, hf.done⟩
  rw [hon]
  obtain ⟨bb, off, cap, hvm, hbb, d0⟩ := h.many hf
  have HA := Lib.hid (box1 w #[.int .i64 s.cl, .int .i64 s.pa, V.m, V.g, .int .i64 s.nu, .int .i64 (ph), .int .i64 (s.vol : Nat), .int .i64 s.c.cl, .int .i64 s.c.nu, .int .i64 s.c.kd, .int .i64 s.c.h1, .int .i64 s.c.h2, .int .i64 s.c.g1, .int .i64 s.c.g2, .string s.c.nm, .string s.c.ot, .int .i64 s.c.m1, .int .i64 s.c.m2, .int .i64 s.c.m3, .string s.c.mt, .bool s.c.fo, .int .i64 s.c.aa, .int .i64 s.c.nn, .int .i64 s.c.tt, .string s.c.bb, .int .i64 s.wait, .int .i64 s.vain, V.o, .int .i64 z.nu, .int .i64 z.co, .int .i64 z.a.co, .int .i64 z.a.h1, .int .i64 z.a.h2, .string z.a.b, .int .i64 z.a.i1, .int .i64 z.a.i2, .int .i64 z.a.i3, .int .i64 z.a.i4, .int .i64 z.a.i5, .int .i64 z.a.i6, .int .i64 z.a.i7, .int .i64 z.a.i8, .slice z.a.na z.a.nl z.a.nc] 46 46 #[.int .i64 0, .int .i64 0, .slice none 0 0, .slice none 0 0, .int .i64 0, .int .i64 0, .int .i64 0, .int .i64 0, .int .i64 0, .int .i64 0, .int .i64 0, .int .i64 0, .int .i64 0, .int .i64 0, .string ⟨#[]⟩, .string ⟨#[]⟩, .int .i64 0, .int .i64 0, .int .i64 0, .string ⟨#[]⟩, .bool false, .int .i64 0, .int .i64 0, .int .i64 0, .string ⟨#[]⟩, .int .i64 0, .int .i64 0, .slice none 0 0, .int .i64 0, .int .i64 0, .int .i64 0, .int .i64 0, .int .i64 0, .string ⟨#[]⟩, .int .i64 0, .int .i64 0, .int .i64 0, .int .i64 0, .int .i64 0, .int .i64 0, .int .i64 0, .int .i64 0, .slice none 0 0])
  have HZ := Lib.hid (box2 w (.cells #[.int .i64 s.cl, .int .i64 s.pa, V.m, V.g, .int .i64 s.nu, .int .i64 (ph), .int .i64 (s.vol : Nat), .int .i64 s.c.cl, .int .i64 s.c.nu, .int .i64 s.c.kd, .int .i64 s.c.h1, .int .i64 s.c.h2, .int .i64 s.c.g1, .int .i64 s.c.g2, .string s.c.nm, .string s.c.ot, .int .i64 s.c.m1, .int .i64 s.c.m2, .int .i64 s.c.m3, .string s.c.mt, .bool s.c.fo, .int .i64 s.c.aa, .int .i64 s.c.nn, .int .i64 s.c.tt, .string s.c.bb, .int .i64 s.wait, .int .i64 s.vain, V.o, .int .i64 z.nu, .int .i64 z.co, .int .i64 z.a.co, .int .i64 z.a.h1, .int .i64 z.a.h2, .string z.a.b, .int .i64 z.a.i1, .int .i64 z.a.i2, .int .i64 z.a.i3, .int .i64 z.a.i4, .int .i64 z.a.i5, .int .i64 z.a.i6, .int .i64 z.a.i7, .int .i64 z.a.i8, .slice z.a.na z.a.nl z.a.nc] 46) #[.int .i64 0, .int .i64 0, .slice none 0 0, .slice none 0 0, .int .i64 0, .int .i64 0, .int .i64 0, .int .i64 0, .int .i64 0, .int .i64 0, .int .i64 0, .int .i64 0, .int .i64 0, .int .i64 0, .string ⟨#[]⟩, .string ⟨#[]⟩, .int .i64 0, .int .i64 0, .int .i64 0, .string ⟨#[]⟩, .bool false, .int .i64 0, .int .i64 0, .int .i64 0, .string ⟨#[]⟩, .int .i64 0, .int .i64 0, .slice none 0 0, .int .i64 0, .int .i64 0, .int .i64 0, .int .i64 0, .int .i64 0, .string ⟨#[]⟩, .int .i64 0, .int .i64 0, .int .i64 0, .int .i64 0, .int .i64 0, .int .i64 0, .int .i64 0, .int .i64 0, .slice none 0 0] 46)
  have B0 := Lib.hid (((Below.refl w.heap.size w).alloc (Nat.le_refl _) (.cells #[.int .i64 s.cl, .int .i64 s.pa, V.m, V.g, .int .i64 s.nu, .int .i64 (ph), .int .i64 (s.vol : Nat), .int .i64 s.c.cl, .int .i64 s.c.nu, .int .i64 s.c.kd, .int .i64 s.c.h1, .int .i64 s.c.h2, .int .i64 s.c.g1, .int .i64 s.c.g2, .string s.c.nm, .string s.c.ot, .int .i64 s.c.m1, .int .i64 s.c.m2, .int .i64 s.c.m3, .string s.c.mt, .bool s.c.fo, .int .i64 s.c.aa, .int .i64 s.c.nn, .int .i64 s.c.tt, .string s.c.bb, .int .i64 s.wait, .int .i64 s.vain, V.o, .int .i64 z.nu, .int .i64 z.co, .int .i64 z.a.co, .int .i64 z.a.h1, .int .i64 z.a.h2, .string z.a.b, .int .i64 z.a.i1, .int .i64 z.a.i2, .int .i64 z.a.i3, .int .i64 z.a.i4, .int .i64 z.a.i5, .int .i64 z.a.i6, .int .i64 z.a.i7, .int .i64 z.a.i8, .slice z.a.na z.a.nl z.a.nc] 46)).alloc (by simp) (.cells #[.int .i64 0, .int .i64 0, .slice none 0 0, .slice none 0 0, .int .i64 0, .int .i64 0, .int .i64 0, .int .i64 0, .int .i64 0, .int .i64 0, .int .i64 0, .int .i64 0, .int .i64 0, .int .i64 0, .string ⟨#[]⟩, .string ⟨#[]⟩, .int .i64 0, .int .i64 0, .int .i64 0, .string ⟨#[]⟩, .bool false, .int .i64 0, .int .i64 0, .int .i64 0, .string ⟨#[]⟩, .int .i64 0, .int .i64 0, .slice none 0 0, .int .i64 0, .int .i64 0, .int .i64 0, .int .i64 0, .int .i64 0, .string ⟨#[]⟩, .int .i64 0, .int .i64 0, .int .i64 0, .int .i64 0, .int .i64 0, .int .i64 0, .int .i64 0, .int .i64 0, .slice none 0 0] 46))
  have hv0 := hf.vain0
  have hv1 := hf.vain1
  have hm := hf.mv_in
  have hgv := hf.gv_in
  have hgat := hf.gat
  obtain ⟨m, hmm⟩ : ∃ m, m = mv s := ⟨_, rfl⟩
  obtain ⟨x, hxx⟩ : ∃ x, x = gv s := ⟨_, rfl⟩
  rw [← hmm] at d0 hm hv hgv
  rw [← hxx] at hgv hgat
  obtain ⟨m0, m1⟩ := hm
  obtain ⟨x0, x1⟩ := hgv
  have h3 : IntKind.i64.wrap (3 * m) = 3 * m := by rw [IntKind.wrap_i64]; omega
  have hvl : s.vol < s.many.length := hf.vol
  have hvl2 : s.vol < s.guess.length := by rw [hf.len]; exact hvl
  have HFEW := Lib.hid (show s.guess.length ≤ 20 by rw [hf.len]; exact hf.few)
  have HD := Lib.hid d0
  have HVM := Lib.hid hvm
  have HR := Lib.hid h
  have HGAT := Lib.hid hgat
  have HS1 := Lib.hid hs1
  have HF1 := Lib.hid hf1
  have HM := Lib.hid hmm
  have HX := Lib.hid hxx
  clear h hf hon hmm hxx d0 hvm hgat hs1 hf1
  go_enter Try.func32, Try.ntmps32
  go_upto_region 1 with (fail)
  generalize (w.alloc (.cells #[.int .i64 s.cl, .int .i64 s.pa, V.m, V.g, .int .i64 s.nu, .int .i64 (ph), .int .i64 (s.vol : Nat), .int .i64 s.c.cl, .int .i64 s.c.nu, .int .i64 s.c.kd, .int .i64 s.c.h1, .int .i64 s.c.h2, .int .i64 s.c.g1, .int .i64 s.c.g2, .string s.c.nm, .string s.c.ot, .int .i64 s.c.m1, .int .i64 s.c.m2, .int .i64 s.c.m3, .string s.c.mt, .bool s.c.fo, .int .i64 s.c.aa, .int .i64 s.c.nn, .int .i64 s.c.tt, .string s.c.bb, .int .i64 s.wait, .int .i64 s.vain, V.o, .int .i64 z.nu, .int .i64 z.co, .int .i64 z.a.co, .int .i64 z.a.h1, .int .i64 z.a.h2, .string z.a.b, .int .i64 z.a.i1, .int .i64 z.a.i2, .int .i64 z.a.i3, .int .i64 z.a.i4, .int .i64 z.a.i5, .int .i64 z.a.i6, .int .i64 z.a.i7, .int .i64 z.a.i8, .slice z.a.na z.a.nl z.a.nc] 46)).alloc (.cells #[.int .i64 0, .int .i64 0, .slice none 0 0, .slice none 0 0, .int .i64 0, .int .i64 0, .int .i64 0, .int .i64 0, .int .i64 0, .int .i64 0, .int .i64 0, .int .i64 0, .int .i64 0, .int .i64 0, .string ⟨#[]⟩, .string ⟨#[]⟩, .int .i64 0, .int .i64 0, .int .i64 0, .string ⟨#[]⟩, .bool false, .int .i64 0, .int .i64 0, .int .i64 0, .string ⟨#[]⟩, .int .i64 0, .int .i64 0, .slice none 0 0, .int .i64 0, .int .i64 0, .int .i64 0, .int .i64 0, .int .i64 0, .string ⟨#[]⟩, .int .i64 0, .int .i64 0, .int .i64 0, .int .i64 0, .int .i64 0, .int .i64 0, .int .i64 0, .int .i64 0, .slice none 0 0] 46) = W2 at HA HZ B0 ⊢
  have a26 : W2.cell? ⟨w.heap.size, 26, none⟩ = some (.int .i64 s.vain) := HA.out.cell 26
  have f26 := HA.out.frozen 26
  have hal := HA.out.lt
  have HA1 := Lib.hid (show Box (W2.setCell ⟨w.heap.size, 26, none⟩ (.int .i64 (s.vain + 1))) w.heap.size 46 #[.int .i64 s.cl, .int .i64 s.pa, V.m, V.g, .int .i64 s.nu, .int .i64 (ph), .int .i64 (s.vol : Nat), .int .i64 s.c.cl, .int .i64 s.c.nu, .int .i64 s.c.kd, .int .i64 s.c.h1, .int .i64 s.c.h2, .int .i64 s.c.g1, .int .i64 s.c.g2, .string s.c.nm, .string s.c.ot, .int .i64 s.c.m1, .int .i64 s.c.m2, .int .i64 s.c.m3, .string s.c.mt, .bool s.c.fo, .int .i64 s.c.aa, .int .i64 s.c.nn, .int .i64 s.c.tt, .string s.c.bb, .int .i64 s.wait, .int .i64 (s.vain + 1), V.o, .int .i64 z.nu, .int .i64 z.co, .int .i64 z.a.co, .int .i64 z.a.h1, .int .i64 z.a.h2, .string z.a.b, .int .i64 z.a.i1, .int .i64 z.a.i2, .int .i64 z.a.i3, .int .i64 z.a.i4, .int .i64 z.a.i5, .int .i64 z.a.i6, .int .i64 z.a.i7, .int .i64 z.a.i8, .slice z.a.na z.a.nl z.a.nc] from HA.out.set 26 _)
  have HZ1 := Lib.hid (HZ.out.set_other (p := ⟨w.heap.size, 26, none⟩) (by show w.heap.size + 1 ≠ w.heap.size; omega) (.int .i64 (s.vain + 1)))
  have B1 := Lib.hid (B0.out.setCell (p := ⟨w.heap.size, 26, none⟩) (Nat.le_refl _) (.int .i64 (s.vain + 1)))
  clear HA HZ B0
  go_upto_region 2 with (fail)
  generalize W2.setCell ⟨w.heap.size, 26, none⟩ (.int .i64 (s.vain + 1)) = W3 at HA1 HZ1 B1 ⊢
  clear a26 f26 hal
  have b2 : W3.cell? ⟨w.heap.size, 2, none⟩ = some V.m := HA1.out.cell 2
  rw [HVM.out] at b2
  have b6 : W3.cell? ⟨w.heap.size, 6, none⟩ = some (.int .i64 (s.vol : Nat)) := HA1.out.cell 6
  have b26 : W3.cell? ⟨w.heap.size, 26, none⟩ = some (.int .i64 (s.vain + 1)) := HA1.out.cell 26
  have hal := HA1.out.lt
  have d1 : W3.cell? ⟨bb, off + s.vol, none⟩ = some (.int .i64 m) := (B1.out.cell (p := ⟨bb, off + s.vol, none⟩) hbb).trans HD.out
  have hbl := World.block_lt_of_cell? _ _ d1
  go_upto_region 7 with (fail)
  clear b2 b6 b26 d1 hbl
  obtain ⟨ag, cg, hvg, _⟩ := own_shape HR.out.rg
  have b3 : W3.cell? ⟨w.heap.size, 3, none⟩ = some V.g := HA1.out.cell 3
  rw [hvg] at b3
  have hrg := HR.out.rg
  rw [hvg] at hrg
  have HA2 := Lib.hid (HA1.out.alloc (.cells #[] 3))
  have HZ2 := Lib.hid (HZ1.out.alloc (.cells #[] 3))
  have B2 := Lib.hid (B1.out.alloc B1.out.size (.cells #[] 3))
  have HO := Lib.hid (World.ownsRow_lit (base := w.heap.size) (e := 3) (size := 1) W3 #[] 0 B1.out.size (by decide) rfl)
  have HSRC := Lib.hid (own_src (own_stays hrg (w' := W3.alloc (.cells #[] 3)) fun k hk => B2.out.block k (own_lt hrg k hk)) (fun u hu => by obtain ⟨y, _, rfl⟩ := List.mem_map.1 hu; rfl))
  have HSZ := Lib.hid B2.out.size
  obtain ⟨i0, hi, hz0, hz1, hz2⟩ := info_parts row3
  have HI := Lib.hid hi
  have HZZ := Lib.hid hz0
  have hW3 : w.heap.size < W3.heap.size ∧ w.heap.size + 1 < W3.heap.size := ⟨hal, HZ1.out.lt⟩
  obtain ⟨hw31, hw32⟩ := hW3
  clear hi hz0 hrg hvg HA1 HZ1 B1
  go_wp2_with (at_builtin; refine wpList_append_at rfl (.tmp 26) (.tmp 28) 22 rfl w.heap.size 3 i0 _ 1 8 Try.underlying22 HI.out HZZ.out hz1 hz2 rfl (by decide) _ _ _ rfl HO.out _ _ _ _ rfl HSRC.out ?c2 ?c3 HSZ.out ?_)
  case c2 => have := HFEW.out; unfold maxLen; omega
  case c3 => have := HFEW.out; omega
  intro v6 w6 own6 g6 at6
  obtain ⟨gl, c6, rfl, hglb, hgll, _, _, hgc6, hgf6⟩ := own_at1 own6 s.vol x HGAT.out
  have hn1 : some w.heap.size ≠ (Value.slice (some ⟨W3.heap.size, 0, none⟩) 0 0).ownBlock := by show some w.heap.size ≠ some W3.heap.size; simp; omega
  have hn2 : some (w.heap.size + 1) ≠ (Value.slice (some ⟨W3.heap.size, 0, none⟩) 0 0).ownBlock := by show some (w.heap.size + 1) ≠ some W3.heap.size; simp; omega
  have HA6 := Lib.hid (HA2.out.grown g6 hn1)
  have HZ6 := Lib.hid (HZ2.out.grown g6 hn2)
  have B6 := Lib.hid (B2.out.grown g6 HSZ.out (own_ge HO.out))
  have HRO6 := Lib.hid own6
  have HGC6 := Lib.hid hgc6
  have HGF6 := Lib.hid hgf6
  have hgA : gl ≠ w.heap.size := fun e => own_box_ne own6 HA6.out (by decide) (by rw [e]; rfl)
  have hgZ : gl ≠ w.heap.size + 1 := fun e => own_box_ne own6 HZ6.out (by decide) (by rw [e]; rfl)
  clear own6 g6 at6 hgc6 hgf6 HA2 HZ2 B2 HO HSRC HSZ HI HZZ b3 hn1 hn2 hw31 hw32
  go_upto_region 8 with (fail)
  have hx1 : IntKind.i64.wrap (x + 1) = x + 1 := by rw [IntKind.wrap_i64]; omega
  have hmod : (x + 1).tmod m = (x + 1) % m := Int.tmod_eq_emod_of_nonneg (by omega)
  have hwm : IntKind.i64.wrap ((x + 1) % m) = (x + 1) % m := by
    have h1 := Int.emod_nonneg (x + 1) (show m ≠ 0 by omega)
    have h2 := Int.emod_lt_of_pos (x + 1) (show 0 < m by omega)
    rw [IntKind.wrap_i64]; omega
  have hm0 : ¬ m = 0 := by omega
  refine wp_region_steps (fun w' => Box w' w.heap.size 46 #[.int .i64 s.cl, .int .i64 s.pa, V.m, V.g, .int .i64 s.nu, .int .i64 (ph), .int .i64 (s.vol : Nat), .int .i64 s.c.cl, .int .i64 s.c.nu, .int .i64 s.c.kd, .int .i64 s.c.h1, .int .i64 s.c.h2, .int .i64 s.c.g1, .int .i64 s.c.g2, .string s.c.nm, .string s.c.ot, .int .i64 s.c.m1, .int .i64 s.c.m2, .int .i64 s.c.m3, .string s.c.mt, .bool s.c.fo, .int .i64 s.c.aa, .int .i64 s.c.nn, .int .i64 s.c.tt, .string s.c.bb, .int .i64 s.wait, .int .i64 (s.vain + 1), V.o, .int .i64 z.nu, .int .i64 z.co, .int .i64 z.a.co, .int .i64 z.a.h1, .int .i64 z.a.h2, .string z.a.b, .int .i64 z.a.i1, .int .i64 z.a.i2, .int .i64 z.a.i3, .int .i64 z.a.i4, .int .i64 z.a.i5, .int .i64 z.a.i6, .int .i64 z.a.i7, .int .i64 z.a.i8, .slice z.a.na z.a.nl z.a.nc] ∧ w'.cell? ⟨gl, s.vol, none⟩ = some (.int .i64 x)) [(true, 0), (true, 1), (true, 2), (true, 3), (true, 4), (true, 5), (true, 6), (true, 7), (true, 8), (true, 9), (true, 10), (true, 11), (false, 12)] 12 _ _ (by kernel_rfl) rfl (by kernel_rfl) (by kernel_rfl) rfl (fun _ _ _ _ _ h => h) ⟨HA6.out.drew, HGC6.out⟩ ?_
  intro S HS
  simp only [pickS, List.getElem?_cons_zero, List.getElem?_cons_succ]
  refine wpSteps_head ?_
  go_big_quiet_want; go_big_quiet_op; go_big_quiet_on
  refine wpQuiet_nil ?_
  refine wpSteps_head ?_
  go_big_quiet_want; apply quiet_value; (· (intro w' hw; have hB := ((HS.out _).1 hw).1; have hnl := hB.lt; go_simp; try rfl)); simp only [Act.put, List.setIfInBounds_toArray, List.set_cons_succ, List.set_cons_zero]; go_big_quiet_on
  refine wpQuiet_nil ?_
  refine wpSteps_head ?_
  go_big_quiet_want; apply quiet_value; (· (intro w' hw; have hB := ((HS.out _).1 hw).1; have hnl := hB.lt; have p6 : w'.cell? ⟨w.heap.size, 6, none⟩ = some (.int .i64 (s.vol : Nat)) := hB.cell 6; go_simp; try rfl)); simp only [Act.put, List.setIfInBounds_toArray, List.set_cons_succ, List.set_cons_zero]; go_big_quiet_on
  refine wpQuiet_nil ?_
  refine wpSteps_head ?_
  go_big_quiet_want; go_big_quiet_op; go_big_quiet_on
  refine wpQuiet_nil ?_
  refine wpSteps_head ?_
  go_big_quiet_want; apply quiet_value; (· (intro w' hw; have hB := ((HS.out _).1 hw).1; have hnl := hB.lt; go_simp; try rfl)); simp only [Act.put, List.setIfInBounds_toArray, List.set_cons_succ, List.set_cons_zero]; go_big_quiet_on
  refine wpQuiet_nil ?_
  refine wpSteps_head ?_
  go_big_quiet_want; apply quiet_value; (· (intro w' hw; have hB := ((HS.out _).1 hw).1; have hnl := hB.lt; have p6 : w'.cell? ⟨w.heap.size, 6, none⟩ = some (.int .i64 (s.vol : Nat)) := hB.cell 6; go_simp; try rfl)); simp only [Act.put, List.setIfInBounds_toArray, List.set_cons_succ, List.set_cons_zero]; go_big_quiet_on
  refine wpQuiet_nil ?_
  refine wpSteps_head ?_
  go_big_quiet_want; apply quiet_value; (· (intro w' hw; have hc := ((HS.out _).1 hw).2; have hl := World.block_lt_of_cell? _ _ hc; go_simp; try rfl)); simp only [Act.put, List.setIfInBounds_toArray, List.set_cons_succ, List.set_cons_zero]; go_big_quiet_on
  refine wpQuiet_nil ?_
  refine wpSteps_head ?_
  go_big_quiet_want; apply quiet_value; (· (intro w' hw; have hc := ((HS.out _).1 hw).2; have hl := World.block_lt_of_cell? _ _ hc; go_simp; try rfl)); simp only [Act.put, List.setIfInBounds_toArray, List.set_cons_succ, List.set_cons_zero]; go_big_quiet_on
  refine wpQuiet_nil ?_
  refine wpSteps_head ?_
  go_big_quiet_want; apply quiet_value; (· (intro w' hw; go_simp; try rfl)); simp only [Act.put, List.setIfInBounds_toArray, List.set_cons_succ, List.set_cons_zero]; go_big_quiet_on
  refine wpQuiet_nil ?_
  refine wpSteps_head ?_
  go_big_quiet_want; go_big_quiet_op; go_big_quiet_on
  refine wpQuiet_nil ?_
  refine wpSteps_head ?_
  go_big_quiet_want; apply quiet_value; (· (intro w' hw; go_simp; try rfl)); simp only [Act.put, List.setIfInBounds_toArray, List.set_cons_succ, List.set_cons_zero]; go_big_quiet_on
  refine wpQuiet_nil ?_
  refine wpSteps_head ?_
  go_big_quiet_want; apply quiet_value; (· (intro w' hw; have hc := ((HS.out _).1 hw).2; have hl := World.block_lt_of_cell? _ _ hc; go_simp; try rfl)); simp only [Act.put, List.setIfInBounds_toArray, List.set_cons_succ, List.set_cons_zero]; go_big_quiet_on
  refine wpQuiet_nil ?_
  refine wpSteps_last ?_
  have hcx := HGC6.out
  have hcl := World.block_lt_of_cell? _ _ hcx
  have hcf := HGF6.out
  go_upto_region 9 with (fail)
  have HA7 := Lib.hid ((HA6.out.set_other (p := ⟨gl, s.vol, none⟩) (Ne.symm hgA) (.int .i64 ((x + 1) % m))).drew)
  have HZ7 := Lib.hid ((HZ6.out.set_other (p := ⟨gl, s.vol, none⟩) (Ne.symm hgZ) (.int .i64 ((x + 1) % m))).drew)
  have B7 := Lib.hid ((B6.out.setCell (p := ⟨gl, s.vol, none⟩) hglb (.int .i64 ((x + 1) % m))).drew)
  have HRO7 := Lib.hid (own_stays (own_set HRO6.out s.vol (by omega) (.int .i64 ((x + 1) % m))) (w' := (w6.setCell ⟨gl, s.vol, none⟩ (.int .i64 ((x + 1) % m))).drew) fun k hk => rfl)
  generalize (w6.setCell ⟨gl, s.vol, none⟩ (.int .i64 ((x + 1) % m))).drew = w7 at HA7 HZ7 B7 HRO7 ⊢
  have b3 : w7.cell? ⟨w.heap.size, 3, none⟩ = some V.g := HA7.out.cell 3
  have f3 := HA7.out.frozen 3
  have hal7 := HA7.out.lt
  obtain ⟨V1, hV1⟩ : ∃ V1 : Vr, V1 = { V with g := .slice (some ⟨gl, 0, none⟩) s.guess.length c6 } := ⟨_, rfl⟩
  have HA8 := Lib.hid (show Box (w7.setCell ⟨w.heap.size, 3, none⟩ (.slice (some ⟨gl, 0, none⟩) s.guess.length c6)) w.heap.size 46 (rcs s1 V1 ph z) from by rw [HS1.out, hV1, ← HM.out, ← HX.out]; exact HA7.out.set 3 _)
  have HZ8 := Lib.hid (HZ7.out.set_other (p := ⟨w.heap.size, 3, none⟩) (by show w.heap.size + 1 ≠ w.heap.size; omega) (.slice (some ⟨gl, 0, none⟩) s.guess.length c6))
  have B8 := Lib.hid (B7.out.setCell (p := ⟨w.heap.size, 3, none⟩) (Nat.le_refl _) (.slice (some ⟨gl, 0, none⟩) s.guess.length c6))
  have HRO8 := own_stays HRO7.out (w' := w7.setCell ⟨w.heap.size, 3, none⟩ (.slice (some ⟨gl, 0, none⟩) s.guess.length c6)) fun k hk => Below.heap_setCell _ _ _ _ (by rintro rfl; exact own_box_ne HRO7.out HA7.out (by decide) hk)
  have HR8 := HR.out.below B8.out
  have HR1 := Lib.hid (show Rt (w7.setCell ⟨w.heap.size, 3, none⟩ (.slice (some ⟨gl, 0, none⟩) s.guess.length c6)) V1 s1 from by
    rw [HS1.out, hV1, ← HM.out, ← HX.out]
    refine ⟨HR8.rm, ?_, HR8.ro⟩
    show World.ownsRow _ 0 3 1 _ (s.guess.set s.vol ((x + 1) % m)).length ((s.guess.set s.vol ((x + 1) % m)).map iv)
    rw [List.length_set, List.map_set]
    exact own_base' HRO8 (Nat.zero_le _))
  have HL1 := Lib.hid (show s1.out.length ≤ 500 by rw [HS1.out]; exact hl)
  have HV1 := Lib.hid hV1
  clear HA7 HZ7 B7 HRO7 HRO8 HR8 hV1 HA6 HZ6 B6 HRO6 HGC6 HGF6 HS
  go_upto_region 10 with (fail)
  generalize w7.setCell ⟨w.heap.size, 3, none⟩ (.slice (some ⟨gl, 0, none⟩) s.guess.length c6) = w8 at HA8 HZ8 B8 HR1 ⊢
  clear b3 f3 hal7
  have hal8 := HA8.out.lt
  have hal9 := HZ8.out.lt
  go_wp2_with (refine wpList_load_box rfl 46 (.tmp 1) rfl _ 0 rfl HA8.out (rcs s1 V1 ph z).toList (by kernel_rfl) Try.underlying46 rfl (by kernel_rfl) ?_)
  refine (rask_any z ph HR1.out HF1.out HL1.out).mono ?_
  rintro e w9 ⟨V2, rfl, hR9, hT9⟩
  have HZ9 := Lib.hid (HZ8.out.below hT9.below HZ8.out.lt)
  have B9 := Lib.hid (B8.out.trans (hT9.below.mono B8.out.size))
  have HONE := Lib.hid (one_rcs hR9 ph z)
  have HR9 := Lib.hid hR9
  have HT9 := Lib.hid hT9
  clear hR9 hT9 HA8 HZ8 
  go_wp2_with (refine wpList_store_box rfl 46 (.tmp 2) (.tmp 45) rfl rfl _ 0 rfl (rcs (askS s1) V2 ph z).toList rfl HZ9.out (rcs (askS s1) V2 ph z) (by kernel_rfl) (by kernel_rfl) (by kernel_rfl) HONE.out ?_)
  have BF := Below.setRow B9.out (g := w.heap.size + 1) (by omega) (rcs (askS s1) V2 ph z)
  have hm2 : V2.m = V.m := by rw [HT9.out.m, HV1.out]
  refine ret_c Try.results32 rfl rfl ((HZ9.out.setRow _).load Try.underlying46 rfl (by kernel_rfl)) ⟨V2, rfl, Rt.final HR.out HR9.out hm2 (by rw [HS1.out]; rfl) BF HZ9.out, ⟨BF, hm2, fun k hk => ?_, fun k hk => ?_⟩⟩
  · rcases HT9.out.g k hk with h1 | h1
    · rw [HV1.out] at h1
      exact .inr (by have h2 : gl = k := Option.some.inj h1; omega)
    · exact .inr (Nat.le_trans B8.out.size h1)
  · rcases HT9.out.o k hk with h1 | h1
    · rw [HV1.out] at h1
      exact .inl h1
    · exact .inr (Nat.le_trans B8.out.size h1)
theorem ron_any (z : Rs) (h : Rt w V s) (hf : Fit s) (hb : s.busy = true) (hl : s.out.length ≤ 500) (hd : s.done = []) : Calls Try.prog 32 #[.agg (rcs s V (phS s) z)] w (Gives w V (onS s) (phS (onS s))) := by
  have hp : phS s = 1 := by rw [phS, hb]; rfl
  by_cases hv : 3 * mv s ≤ s.vain + 1
  · have hon : onS s = endS { s with vain := s.vain + 1 } ⟨0, 210, zeroAn⟩ := by rw [onS, if_pos hv]
    refine (ron_end z (phS s) h hf hv).mono ?_
    rintro e w' ⟨rfl, b⟩
    have hr := h.below b
    refine ⟨V, ⟨s.nu, 210, zeroAn⟩, ?_, ?_, ?_, RTo.same b⟩
    · rw [hon]; rfl
    · rw [hon]; intro r hr; exact List.head_eq_of_cons_eq hr
    · rw [hon]; exact ⟨hr.rm, hr.rg, hr.ro⟩
  · have hon : onS s = askS { s with vain := s.vain + 1, guess := s.guess.set s.vol ((gv s + 1) % mv s) } := by rw [onS, if_neg hv]
    refine (ron_more z (phS s) h hf hl hv).mono ?_
    rintro e w' ⟨V', rfl, hr, ht⟩
    have hp2 : phS (onS s) = phS s := by rw [hon, hp]; show phS { s with vain := _, guess := _, wait := _, out := _ } = 1; rw [phS, if_pos hb]
    refine ⟨V', z, by rw [hp2], ?_, hr, ht⟩
    intro r hr2
    rw [hon] at hr2
    have : s.done = [r] := hr2
    rw [hd] at this
    cases this
end Go.Proofs.Ytlkilkndjfcejaa
