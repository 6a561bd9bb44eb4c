/- porter: the document's Sent, Guess, Done. Conditions: its rows lie in memory. -/
import Derived.Test.YtlkilkndjfcejaaRa
namespace Go.Proofs.Ytlkilkndjfcejaa
open Go Go.RowKit
set_option linter.unusedVariables false
set_option linter.unusedSimpArgs false
variable {w w' : World} {s s' : St} {V V' : Vr}

set_option maxRecDepth 100000 in
set_option maxHeartbeats 8000000 in
theorem rsent_any (z : Rs) (ph : Int) (h : Rt w V s) : Calls Try.prog 39 #[.agg (rcs s V ph z)] w fun e w' => e = .returned (.tuple #[.agg (rcs (outS s) { V with o := .slice none 0 0 } ph z), V.o]) ∧ Below w.heap.size w w' := by
  obtain ⟨Vm, Vg, Vo⟩ := V
  obtain ⟨am, lm, cm, hvm, hmI⟩ := h.rm
  have hvm2 : Vm = .slice am lm cm := hvm
  subst hvm2
  clear hvm
  have hro : w.ownsRow 0 106 20 Vo s.out.length (s.out.flatMap ql) := h.ro
  have hrg : w.ownsRow 0 3 1 Vg s.guess.length (s.guess.map iv) := h.rg
  obtain ⟨ag, cg, rfl, _⟩ := own_shape hrg
  obtain ⟨ao, co, rfl, _⟩ := own_shape hro
  have B0 := Lib.hid (Below.setRow (((Below.refl w.heap.size w).alloc (Nat.le_refl _) (.cells #[.int .i64 s.cl, .int .i64 s.pa, .slice am lm cm, .slice ag s.guess.length cg, .int .i64 s.nu, .int .i64 (ph), .int .i64 (s.vol : Nat), .int .i64 s.c.cl, .int .i64 s.c.nu, .int .i64 s.c.kd, .int .i64 s.c.h1, .int .i64 s.c.h2, .int .i64 s.c.g1, .int .i64 s.c.g2, .string s.c.nm, .string s.c.ot, .int .i64 s.c.m1, .int .i64 s.c.m2, .int .i64 s.c.m3, .string s.c.mt, .bool s.c.fo, .int .i64 s.c.aa, .int .i64 s.c.nn, .int .i64 s.c.tt, .string s.c.bb, .int .i64 s.wait, .int .i64 s.vain, .slice none 0 0, .int .i64 z.nu, .int .i64 z.co, .int .i64 z.a.co, .int .i64 z.a.h1, .int .i64 z.a.h2, .string z.a.b, .int .i64 z.a.i1, .int .i64 z.a.i2, .int .i64 z.a.i3, .int .i64 z.a.i4, .int .i64 z.a.i5, .int .i64 z.a.i6, .int .i64 z.a.i7, .int .i64 z.a.i8, .slice z.a.na z.a.nl z.a.nc] 46)).alloc (by simp) (.cells #[.int .i64 0, .int .i64 0, .slice none 0 0, .slice none 0 0, .int .i64 0, .int .i64 0, .int .i64 0, .int .i64 0, .int .i64 0, .int .i64 0, .int .i64 0, .int .i64 0, .int .i64 0, .int .i64 0, .string ⟨#[]⟩, .string ⟨#[]⟩, .int .i64 0, .int .i64 0, .int .i64 0, .string ⟨#[]⟩, .bool false, .int .i64 0, .int .i64 0, .int .i64 0, .string ⟨#[]⟩, .int .i64 0, .int .i64 0, .slice none 0 0, .int .i64 0, .int .i64 0, .int .i64 0, .int .i64 0, .int .i64 0, .string ⟨#[]⟩, .int .i64 0, .int .i64 0, .int .i64 0, .int .i64 0, .int .i64 0, .int .i64 0, .int .i64 0, .int .i64 0, .slice none 0 0] 46)) (g := w.heap.size + 1) (by omega) #[.int .i64 s.cl, .int .i64 s.pa, .slice am lm cm, .slice ag s.guess.length cg, .int .i64 s.nu, .int .i64 (ph), .int .i64 (s.vol : Nat), .int .i64 s.c.cl, .int .i64 s.c.nu, .int .i64 s.c.kd, .int .i64 s.c.h1, .int .i64 s.c.h2, .int .i64 s.c.g1, .int .i64 s.c.g2, .string s.c.nm, .string s.c.ot, .int .i64 s.c.m1, .int .i64 s.c.m2, .int .i64 s.c.m3, .string s.c.mt, .bool s.c.fo, .int .i64 s.c.aa, .int .i64 s.c.nn, .int .i64 s.c.tt, .string s.c.bb, .int .i64 s.wait, .int .i64 s.vain, .slice none 0 0, .int .i64 z.nu, .int .i64 z.co, .int .i64 z.a.co, .int .i64 z.a.h1, .int .i64 z.a.h2, .string z.a.b, .int .i64 z.a.i1, .int .i64 z.a.i2, .int .i64 z.a.i3, .int .i64 z.a.i4, .int .i64 z.a.i5, .int .i64 z.a.i6, .int .i64 z.a.i7, .int .i64 z.a.i8, .slice z.a.na z.a.nl z.a.nc])
  clear h hro hrg hmI
  go_enter Try.func39, Try.ntmps39
  go_wp2_with (first | (refine wpList_load_box rfl 46 (.tmp 1) rfl _ 0 rfl (box1 w _ 46 46 _) [.int .i64 s.cl, .int .i64 s.pa, .slice am lm cm, .slice ag s.guess.length cg, .int .i64 s.nu, .int .i64 (ph), .int .i64 (s.vol : Nat), .int .i64 s.c.cl, .int .i64 s.c.nu, .int .i64 s.c.kd, .int .i64 s.c.h1, .int .i64 s.c.h2, .int .i64 s.c.g1, .int .i64 s.c.g2, .string s.c.nm, .string s.c.ot, .int .i64 s.c.m1, .int .i64 s.c.m2, .int .i64 s.c.m3, .string s.c.mt, .bool s.c.fo, .int .i64 s.c.aa, .int .i64 s.c.nn, .int .i64 s.c.tt, .string s.c.bb, .int .i64 s.wait, .int .i64 s.vain, .slice none 0 0, .int .i64 z.nu, .int .i64 z.co, .int .i64 z.a.co, .int .i64 z.a.h1, .int .i64 z.a.h2, .string z.a.b, .int .i64 z.a.i1, .int .i64 z.a.i2, .int .i64 z.a.i3, .int .i64 z.a.i4, .int .i64 z.a.i5, .int .i64 z.a.i6, .int .i64 z.a.i7, .int .i64 z.a.i8, .slice z.a.na z.a.nl z.a.nc] (by kernel_rfl) Try.underlying46 rfl (by kernel_rfl) ?_) | (refine wpList_store_box rfl 46 (.tmp 2) (.tmp 8) rfl rfl _ 0 rfl [.int .i64 s.cl, .int .i64 s.pa, .slice am lm cm, .slice ag s.guess.length cg, .int .i64 s.nu, .int .i64 (ph), .int .i64 (s.vol : Nat), .int .i64 s.c.cl, .int .i64 s.c.nu, .int .i64 s.c.kd, .int .i64 s.c.h1, .int .i64 s.c.h2, .int .i64 s.c.g1, .int .i64 s.c.g2, .string s.c.nm, .string s.c.ot, .int .i64 s.c.m1, .int .i64 s.c.m2, .int .i64 s.c.m3, .string s.c.mt, .bool s.c.fo, .int .i64 s.c.aa, .int .i64 s.c.nn, .int .i64 s.c.tt, .string s.c.bb, .int .i64 s.wait, .int .i64 s.vain, .slice none 0 0, .int .i64 z.nu, .int .i64 z.co, .int .i64 z.a.co, .int .i64 z.a.h1, .int .i64 z.a.h2, .string z.a.b, .int .i64 z.a.i1, .int .i64 z.a.i2, .int .i64 z.a.i3, .int .i64 z.a.i4, .int .i64 z.a.i5, .int .i64 z.a.i6, .int .i64 z.a.i7, .int .i64 z.a.i8, .slice z.a.na z.a.nl z.a.nc] rfl (box2 w _ #[.int .i64 0, .int .i64 0, .slice none 0 0, .slice none 0 0, .int .i64 0, .int .i64 0, .int .i64 0, .int .i64 0, .int .i64 0, .int .i64 0, .int .i64 0, .int .i64 0, .int .i64 0, .int .i64 0, .string ⟨#[]⟩, .string ⟨#[]⟩, .int .i64 0, .int .i64 0, .int .i64 0, .string ⟨#[]⟩, .bool false, .int .i64 0, .int .i64 0, .int .i64 0, .string ⟨#[]⟩, .int .i64 0, .int .i64 0, .slice none 0 0, .int .i64 0, .int .i64 0, .int .i64 0, .int .i64 0, .int .i64 0, .string ⟨#[]⟩, .int .i64 0, .int .i64 0, .int .i64 0, .int .i64 0, .int .i64 0, .int .i64 0, .int .i64 0, .int .i64 0, .slice none 0 0] 46) #[.int .i64 s.cl, .int .i64 s.pa, .slice am lm cm, .slice ag s.guess.length cg, .int .i64 s.nu, .int .i64 (ph), .int .i64 (s.vol : Nat), .int .i64 s.c.cl, .int .i64 s.c.nu, .int .i64 s.c.kd, .int .i64 s.c.h1, .int .i64 s.c.h2, .int .i64 s.c.g1, .int .i64 s.c.g2, .string s.c.nm, .string s.c.ot, .int .i64 s.c.m1, .int .i64 s.c.m2, .int .i64 s.c.m3, .string s.c.mt, .bool s.c.fo, .int .i64 s.c.aa, .int .i64 s.c.nn, .int .i64 s.c.tt, .string s.c.bb, .int .i64 s.wait, .int .i64 s.vain, .slice none 0 0, .int .i64 z.nu, .int .i64 z.co, .int .i64 z.a.co, .int .i64 z.a.h1, .int .i64 z.a.h2, .string z.a.b, .int .i64 z.a.i1, .int .i64 z.a.i2, .int .i64 z.a.i3, .int .i64 z.a.i4, .int .i64 z.a.i5, .int .i64 z.a.i6, .int .i64 z.a.i7, .int .i64 z.a.i8, .slice z.a.na z.a.nl z.a.nc] (by kernel_rfl) (by kernel_rfl) (by kernel_rfl) (by kernel_rfl) ?_))
  exact ret_ct Try.results39 rfl rfl rfl (((box2 w (.cells #[.int .i64 s.cl, .int .i64 s.pa, .slice am lm cm, .slice ag s.guess.length cg, .int .i64 s.nu, .int .i64 (ph), .int .i64 (s.vol : Nat), .int .i64 s.c.cl, .int .i64 s.c.nu, .int .i64 s.c.kd, .int .i64 s.c.h1, .int .i64 s.c.h2, .int .i64 s.c.g1, .int .i64 s.c.g2, .string s.c.nm, .string s.c.ot, .int .i64 s.c.m1, .int .i64 s.c.m2, .int .i64 s.c.m3, .string s.c.mt, .bool s.c.fo, .int .i64 s.c.aa, .int .i64 s.c.nn, .int .i64 s.c.tt, .string s.c.bb, .int .i64 s.wait, .int .i64 s.vain, .slice none 0 0, .int .i64 z.nu, .int .i64 z.co, .int .i64 z.a.co, .int .i64 z.a.h1, .int .i64 z.a.h2, .string z.a.b, .int .i64 z.a.i1, .int .i64 z.a.i2, .int .i64 z.a.i3, .int .i64 z.a.i4, .int .i64 z.a.i5, .int .i64 z.a.i6, .int .i64 z.a.i7, .int .i64 z.a.i8, .slice z.a.na z.a.nl z.a.nc] 46) #[.int .i64 0, .int .i64 0, .slice none 0 0, .slice none 0 0, .int .i64 0, .int .i64 0, .int .i64 0, .int .i64 0, .int .i64 0, .int .i64 0, .int .i64 0, .int .i64 0, .int .i64 0, .int .i64 0, .string ⟨#[]⟩, .string ⟨#[]⟩, .int .i64 0, .int .i64 0, .int .i64 0, .string ⟨#[]⟩, .bool false, .int .i64 0, .int .i64 0, .int .i64 0, .string ⟨#[]⟩, .int .i64 0, .int .i64 0, .slice none 0 0, .int .i64 0, .int .i64 0, .int .i64 0, .int .i64 0, .int .i64 0, .string ⟨#[]⟩, .int .i64 0, .int .i64 0, .int .i64 0, .int .i64 0, .int .i64 0, .int .i64 0, .int .i64 0, .int .i64 0, .slice none 0 0] 46).setRow #[.int .i64 s.cl, .int .i64 s.pa, .slice am lm cm, .slice ag s.guess.length cg, .int .i64 s.nu, .int .i64 (ph), .int .i64 (s.vol : Nat), .int .i64 s.c.cl, .int .i64 s.c.nu, .int .i64 s.c.kd, .int .i64 s.c.h1, .int .i64 s.c.h2, .int .i64 s.c.g1, .int .i64 s.c.g2, .string s.c.nm, .string s.c.ot, .int .i64 s.c.m1, .int .i64 s.c.m2, .int .i64 s.c.m3, .string s.c.mt, .bool s.c.fo, .int .i64 s.c.aa, .int .i64 s.c.nn, .int .i64 s.c.tt, .string s.c.bb, .int .i64 s.wait, .int .i64 s.vain, .slice none 0 0, .int .i64 z.nu, .int .i64 z.co, .int .i64 z.a.co, .int .i64 z.a.h1, .int .i64 z.a.h2, .string z.a.b, .int .i64 z.a.i1, .int .i64 z.a.i2, .int .i64 z.a.i3, .int .i64 z.a.i4, .int .i64 z.a.i5, .int .i64 z.a.i6, .int .i64 z.a.i7, .int .i64 z.a.i8, .slice z.a.na z.a.nl z.a.nc]).load Try.underlying46 rfl (by kernel_rfl)) ⟨rfl, B0.out⟩
theorem rguess_any (z : Rs) (ph v : Int) (h : Rt w V s) (hf : Fit s) : Calls Try.prog 25 #[.agg (rcs s V ph z), .int .i64 v] w fun e w' => e = .returned (.int .i64 (if thereB s v then s.guess.getD v.toNat 0 else -1)) ∧ Below w.heap.size w w' := by
  obtain ⟨Vm, Vg, Vo⟩ := V
  obtain ⟨am, lm, cm, hvm, hmI⟩ := h.rm
  have hvm2 : Vm = .slice am lm cm := hvm
  subst hvm2
  clear hvm
  have hro : w.ownsRow 0 106 20 Vo s.out.length (s.out.flatMap ql) := h.ro
  have hrg : w.ownsRow 0 3 1 Vg s.guess.length (s.guess.map iv) := h.rg
  obtain ⟨ao, co, rfl, _⟩ := own_shape hro
  have hlm := hmI.1
  by_cases h0 : v < 0
  · obtain ⟨ag, cg, rfl, _⟩ := own_shape hrg
    have hb : thereB s v = false := by simp [thereB]; omega
    rw [hb]
    clear h hro hrg hmI hb hlm
    go_enter Try.func25, Try.ntmps25
    go_wp2
    go_ret
    exact ⟨rfl, (Below.refl _ _).alloc (Nat.le_refl _) _⟩
  · by_cases h1 : (lm : Int) ≤ v
    · obtain ⟨ag, cg, rfl, _⟩ := own_shape hrg
      have hb : thereB s v = false := by simp [thereB]; omega
      rw [hb]
      clear h hro hrg hmI hb hlm
      go_enter Try.func25, Try.ntmps25
      go_wp2
      go_ret
      exact ⟨rfl, (Below.refl _ _).alloc (Nat.le_refl _) _⟩
    · obtain ⟨k, rfl⟩ := Int.eq_ofNat_of_zero_le (show 0 ≤ v by omega)
      have hk : k < s.guess.length := by rw [hf.len]; omega
      obtain ⟨g, cg, rfl, _, hgl, hvl, _, hgc, _⟩ := own_at1 hrg k _ (List.getElem?_eq_getElem hk)
      obtain ⟨x, hx⟩ : ∃ x, x = s.guess[k] := ⟨_, rfl⟩
      have hb : thereB s (k : Int) = true := by simp [thereB]; omega
      have he : s.guess.getD k 0 = x := by rw [hx, List.getD_eq_getElem?_getD, List.getElem?_eq_getElem hk]; rfl
      rw [← hx] at hgc
      rw [hb]
      simp only [if_true, Int.toNat_natCast]
      rw [he]
      clear h hro hrg hmI hb he hx hlm
      go_enter Try.func25, Try.ntmps25
      go_wp2
      go_ret
      exact ⟨rfl, (Below.refl _ _).alloc (Nat.le_refl _) _⟩
end Go.Proofs.Ytlkilkndjfcejaa
