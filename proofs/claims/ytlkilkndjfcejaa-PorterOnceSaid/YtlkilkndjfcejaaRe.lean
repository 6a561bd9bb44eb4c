/- porter: the document's Tick. Conditions: the client is in its bounds. -/
import Derived.Test.YtlkilkndjfcejaaRd
namespace Go.Proofs.Ytlkilkndjfcejaa
open Go Go.RowKit
set_option linter.unusedVariables false
set_option linter.unusedSimpArgs false
variable {w w' : World} {s s' : St} {V V' : Vr}

theorem onS_many (s : St) : (onS s).many = s.many := by
  unfold onS
  split <;> rfl
theorem phS_idle (h : s.busy = false) : phS s = 0 ∨ phS s = 2 := by
  rw [phS, h]
  simp only [Bool.false_eq_true, if_false]
  split
  · exact .inl rfl
  · exact .inr rfl
theorem Gives.same (z : Rs) (hz : ∀ r, s.done = [r] → z = r) (h : Rt w V s) (hb : Below w.heap.size w w') : Gives w V s (phS s) (.returned (.agg (rcs s V (phS s) z))) w' := ⟨V, z, rfl, hz, h.below hb, RTo.same hb⟩
set_option maxRecDepth 100000 in
set_option maxHeartbeats 8000000 in
theorem rtick_any (z : Rs) (hz : ∀ r, s.done = [r] → z = r) (h : Rt w V s) (ho : Okay s) (hl : s.out.length ≤ 500) : Calls Try.prog 17 #[.agg (rcs s V (phS s) z)] w (Gives w V (tickS s) (phS (tickS s))) := by
  obtain ⟨ph, hph⟩ : ∃ ph, ph = phS s := ⟨_, rfl⟩
  have HONE := Lib.hid (one_rcs h ph z)
  have HA := Lib.hid (box1 w #[.int .i64 s.cl, .int .i64 s.pa, V.m, V.g, .int .i64 s.nu, .int .i64 (ph), .int .i64 (s.vol : Nat), .int .i64 s.c.cl, .int .i64 s.c.nu, .int .i64 s.c.kd, .int .i64 s.c.h1, .int .i64 s.c.h2, .int .i64 s.c.g1, .int .i64 s.c.g2, .string s.c.nm, .string s.c.ot, .int .i64 s.c.m1, .int .i64 s.c.m2, .int .i64 s.c.m3, .string s.c.mt, .bool s.c.fo, .int .i64 s.c.aa, .int .i64 s.c.nn, .int .i64 s.c.tt, .string s.c.bb, .int .i64 s.wait, .int .i64 s.vain, V.o, .int .i64 z.nu, .int .i64 z.co, .int .i64 z.a.co, .int .i64 z.a.h1, .int .i64 z.a.h2, .string z.a.b, .int .i64 z.a.i1, .int .i64 z.a.i2, .int .i64 z.a.i3, .int .i64 z.a.i4, .int .i64 z.a.i5, .int .i64 z.a.i6, .int .i64 z.a.i7, .int .i64 z.a.i8, .slice z.a.na z.a.nl z.a.nc] 46 46 #[.int .i64 0, .int .i64 0, .slice none 0 0, .slice none 0 0, .int .i64 0, .int .i64 0, .int .i64 0, .int .i64 0, .int .i64 0, .int .i64 0, .int .i64 0, .int .i64 0, .int .i64 0, .int .i64 0, .string ⟨#[]⟩, .string ⟨#[]⟩, .int .i64 0, .int .i64 0, .int .i64 0, .string ⟨#[]⟩, .bool false, .int .i64 0, .int .i64 0, .int .i64 0, .string ⟨#[]⟩, .int .i64 0, .int .i64 0, .slice none 0 0, .int .i64 0, .int .i64 0, .int .i64 0, .int .i64 0, .int .i64 0, .string ⟨#[]⟩, .int .i64 0, .int .i64 0, .int .i64 0, .int .i64 0, .int .i64 0, .int .i64 0, .int .i64 0, .int .i64 0, .slice none 0 0])
  have HZ := Lib.hid (box2 w (.cells #[.int .i64 s.cl, .int .i64 s.pa, V.m, V.g, .int .i64 s.nu, .int .i64 (ph), .int .i64 (s.vol : Nat), .int .i64 s.c.cl, .int .i64 s.c.nu, .int .i64 s.c.kd, .int .i64 s.c.h1, .int .i64 s.c.h2, .int .i64 s.c.g1, .int .i64 s.c.g2, .string s.c.nm, .string s.c.ot, .int .i64 s.c.m1, .int .i64 s.c.m2, .int .i64 s.c.m3, .string s.c.mt, .bool s.c.fo, .int .i64 s.c.aa, .int .i64 s.c.nn, .int .i64 s.c.tt, .string s.c.bb, .int .i64 s.wait, .int .i64 s.vain, V.o, .int .i64 z.nu, .int .i64 z.co, .int .i64 z.a.co, .int .i64 z.a.h1, .int .i64 z.a.h2, .string z.a.b, .int .i64 z.a.i1, .int .i64 z.a.i2, .int .i64 z.a.i3, .int .i64 z.a.i4, .int .i64 z.a.i5, .int .i64 z.a.i6, .int .i64 z.a.i7, .int .i64 z.a.i8, .slice z.a.na z.a.nl z.a.nc] 46) #[.int .i64 0, .int .i64 0, .slice none 0 0, .slice none 0 0, .int .i64 0, .int .i64 0, .int .i64 0, .int .i64 0, .int .i64 0, .int .i64 0, .int .i64 0, .int .i64 0, .int .i64 0, .int .i64 0, .string ⟨#[]⟩, .string ⟨#[]⟩, .int .i64 0, .int .i64 0, .int .i64 0, .string ⟨#[]⟩, .bool false, .int .i64 0, .int .i64 0, .int .i64 0, .string ⟨#[]⟩, .int .i64 0, .int .i64 0, .slice none 0 0, .int .i64 0, .int .i64 0, .int .i64 0, .int .i64 0, .int .i64 0, .string ⟨#[]⟩, .int .i64 0, .int .i64 0, .int .i64 0, .int .i64 0, .int .i64 0, .int .i64 0, .int .i64 0, .int .i64 0, .slice none 0 0] 46)
  have B0 := Lib.hid (((Below.refl w.heap.size w).alloc (Nat.le_refl _) (.cells #[.int .i64 s.cl, .int .i64 s.pa, V.m, V.g, .int .i64 s.nu, .int .i64 (ph), .int .i64 (s.vol : Nat), .int .i64 s.c.cl, .int .i64 s.c.nu, .int .i64 s.c.kd, .int .i64 s.c.h1, .int .i64 s.c.h2, .int .i64 s.c.g1, .int .i64 s.c.g2, .string s.c.nm, .string s.c.ot, .int .i64 s.c.m1, .int .i64 s.c.m2, .int .i64 s.c.m3, .string s.c.mt, .bool s.c.fo, .int .i64 s.c.aa, .int .i64 s.c.nn, .int .i64 s.c.tt, .string s.c.bb, .int .i64 s.wait, .int .i64 s.vain, V.o, .int .i64 z.nu, .int .i64 z.co, .int .i64 z.a.co, .int .i64 z.a.h1, .int .i64 z.a.h2, .string z.a.b, .int .i64 z.a.i1, .int .i64 z.a.i2, .int .i64 z.a.i3, .int .i64 z.a.i4, .int .i64 z.a.i5, .int .i64 z.a.i6, .int .i64 z.a.i7, .int .i64 z.a.i8, .slice z.a.na z.a.nl z.a.nc] 46)).alloc (by simp) (.cells #[.int .i64 0, .int .i64 0, .slice none 0 0, .slice none 0 0, .int .i64 0, .int .i64 0, .int .i64 0, .int .i64 0, .int .i64 0, .int .i64 0, .int .i64 0, .int .i64 0, .int .i64 0, .int .i64 0, .string ⟨#[]⟩, .string ⟨#[]⟩, .int .i64 0, .int .i64 0, .int .i64 0, .string ⟨#[]⟩, .bool false, .int .i64 0, .int .i64 0, .int .i64 0, .string ⟨#[]⟩, .int .i64 0, .int .i64 0, .slice none 0 0, .int .i64 0, .int .i64 0, .int .i64 0, .int .i64 0, .int .i64 0, .string ⟨#[]⟩, .int .i64 0, .int .i64 0, .int .i64 0, .int .i64 0, .int .i64 0, .int .i64 0, .int .i64 0, .int .i64 0, .slice none 0 0] 46))
  have HR := Lib.hid h
  have HPH := Lib.hid hph
  have HZZ := Lib.hid hz
  rw [← hph]
  cases hb : s.busy
  · have hp1 : (ph != 1) = true := by
      rcases phS_idle hb with h1 | h1 <;> rw [hph, h1] <;> rfl
    have ht : tickS s = s := by rw [tickS, hb]; rfl
    rw [ht]
    clear h hph hz ho hb ht
    go_enter Try.func17, Try.ntmps17
    go_upto_region 1 with (fail)
    generalize (w.alloc (.cells #[.int .i64 s.cl, .int .i64 s.pa, V.m, V.g, .int .i64 s.nu, .int .i64 (ph), .int .i64 (s.vol : Nat), .int .i64 s.c.cl, .int .i64 s.c.nu, .int .i64 s.c.kd, .int .i64 s.c.h1, .int .i64 s.c.h2, .int .i64 s.c.g1, .int .i64 s.c.g2, .string s.c.nm, .string s.c.ot, .int .i64 s.c.m1, .int .i64 s.c.m2, .int .i64 s.c.m3, .string s.c.mt, .bool s.c.fo, .int .i64 s.c.aa, .int .i64 s.c.nn, .int .i64 s.c.tt, .string s.c.bb, .int .i64 s.wait, .int .i64 s.vain, V.o, .int .i64 z.nu, .int .i64 z.co, .int .i64 z.a.co, .int .i64 z.a.h1, .int .i64 z.a.h2, .string z.a.b, .int .i64 z.a.i1, .int .i64 z.a.i2, .int .i64 z.a.i3, .int .i64 z.a.i4, .int .i64 z.a.i5, .int .i64 z.a.i6, .int .i64 z.a.i7, .int .i64 z.a.i8, .slice z.a.na z.a.nl z.a.nc] 46)).alloc (.cells #[.int .i64 0, .int .i64 0, .slice none 0 0, .slice none 0 0, .int .i64 0, .int .i64 0, .int .i64 0, .int .i64 0, .int .i64 0, .int .i64 0, .int .i64 0, .int .i64 0, .int .i64 0, .int .i64 0, .string ⟨#[]⟩, .string ⟨#[]⟩, .int .i64 0, .int .i64 0, .int .i64 0, .string ⟨#[]⟩, .bool false, .int .i64 0, .int .i64 0, .int .i64 0, .string ⟨#[]⟩, .int .i64 0, .int .i64 0, .slice none 0 0, .int .i64 0, .int .i64 0, .int .i64 0, .int .i64 0, .int .i64 0, .string ⟨#[]⟩, .int .i64 0, .int .i64 0, .int .i64 0, .int .i64 0, .int .i64 0, .int .i64 0, .int .i64 0, .int .i64 0, .slice none 0 0] 46) = W2 at HA HZ B0 ⊢
    have a5 : W2.cell? ⟨w.heap.size, 5, none⟩ = some (.int .i64 ph) := HA.out.cell 5
    have hal := HA.out.lt
    go_wp2_with (first | (refine wpList_load_box rfl 46 (.tmp 1) rfl _ 0 rfl HA.out (rcs s V ph z).toList (by kernel_rfl) Try.underlying46 rfl (by kernel_rfl) ?_) | (refine wpList_store_box rfl 46 (.tmp 2) (.tmp 6) rfl rfl _ 0 rfl (rcs s V ph z).toList rfl HZ.out (rcs s V ph z) (by kernel_rfl) (by kernel_rfl) (by kernel_rfl) HONE.out ?_))
    refine ret_c Try.results17 rfl rfl ((HZ.out.setRow _).load Try.underlying46 rfl (by kernel_rfl)) ?_
    rw [HPH.out]
    exact Gives.same z HZZ.out HR.out (Below.setRow B0.out (by omega) _)
  · obtain ⟨b1, b2, b3⟩ := ho.busy hb
    have hp1 : ph = 1 := by rw [hph, phS, hb]; rfl
    have hp2 : (ph != 1) = false := by rw [hp1]; rfl
    obtain ⟨s1, hs1⟩ : ∃ s1 : St, s1 = { s with wait := s.wait + 1 } := ⟨_, rfl⟩
    have hf : Fit s1 := by rw [hs1]; exact ⟨ho.fit.len, ho.fit.few, ho.fit.vol, ho.fit.many, ho.fit.guess, ho.fit.nu0, ho.fit.nu1, by show (0 : Int) ≤ s.wait + 1; have := ho.fit.wait0; omega, by show s.wait + 1 ≤ s.pa; omega, ho.fit.pa0, ho.fit.pa, ho.fit.vain0, ho.fit.vain1, ho.fit.done⟩
    have ht : tickS s = if s.pa ≤ s.wait + 1 then onS s1 else s1 := by rw [tickS, if_pos hb, hs1]
    have w0 := ho.fit.wait0
    have pa := ho.fit.pa
    have HF := Lib.hid hf
    have HS1 := Lib.hid hs1
    have HTS := Lib.hid ht
    have HHB := Lib.hid hb
    have HB3 := Lib.hid b3
    have HP1 := Lib.hid hp1
    clear h hph hz ho hb ht hf hs1 b2 b3 hp1
    by_cases hw : s.wait + 1 = s.pa
    · have hwe : (s.wait + 1 == s.pa) = true := by simp [hw]
      have HT2 := Lib.hid (show tickS s = onS s1 by rw [HTS.out, if_pos (by omega)])
      have HW := Lib.hid hw
      clear hw
      go_enter Try.func17, Try.ntmps17
      go_upto_region 1 with (fail)
      generalize (w.alloc (.cells #[.int .i64 s.cl, .int .i64 s.pa, V.m, V.g, .int .i64 s.nu, .int .i64 (ph), .int .i64 (s.vol : Nat), .int .i64 s.c.cl, .int .i64 s.c.nu, .int .i64 s.c.kd, .int .i64 s.c.h1, .int .i64 s.c.h2, .int .i64 s.c.g1, .int .i64 s.c.g2, .string s.c.nm, .string s.c.ot, .int .i64 s.c.m1, .int .i64 s.c.m2, .int .i64 s.c.m3, .string s.c.mt, .bool s.c.fo, .int .i64 s.c.aa, .int .i64 s.c.nn, .int .i64 s.c.tt, .string s.c.bb, .int .i64 s.wait, .int .i64 s.vain, V.o, .int .i64 z.nu, .int .i64 z.co, .int .i64 z.a.co, .int .i64 z.a.h1, .int .i64 z.a.h2, .string z.a.b, .int .i64 z.a.i1, .int .i64 z.a.i2, .int .i64 z.a.i3, .int .i64 z.a.i4, .int .i64 z.a.i5, .int .i64 z.a.i6, .int .i64 z.a.i7, .int .i64 z.a.i8, .slice z.a.na z.a.nl z.a.nc] 46)).alloc (.cells #[.int .i64 0, .int .i64 0, .slice none 0 0, .slice none 0 0, .int .i64 0, .int .i64 0, .int .i64 0, .int .i64 0, .int .i64 0, .int .i64 0, .int .i64 0, .int .i64 0, .int .i64 0, .int .i64 0, .string ⟨#[]⟩, .string ⟨#[]⟩, .int .i64 0, .int .i64 0, .int .i64 0, .string ⟨#[]⟩, .bool false, .int .i64 0, .int .i64 0, .int .i64 0, .string ⟨#[]⟩, .int .i64 0, .int .i64 0, .slice none 0 0, .int .i64 0, .int .i64 0, .int .i64 0, .int .i64 0, .int .i64 0, .string ⟨#[]⟩, .int .i64 0, .int .i64 0, .int .i64 0, .int .i64 0, .int .i64 0, .int .i64 0, .int .i64 0, .int .i64 0, .slice none 0 0] 46) = W2 at HA HZ B0 ⊢
      have a5 : W2.cell? ⟨w.heap.size, 5, none⟩ = some (.int .i64 ph) := HA.out.cell 5
      have a25 : W2.cell? ⟨w.heap.size, 25, none⟩ = some (.int .i64 s.wait) := HA.out.cell 25
      have f25 := HA.out.frozen 25
      have hal := HA.out.lt
      have HA1 := Lib.hid (show Box (W2.setCell ⟨w.heap.size, 25, none⟩ (.int .i64 (s.wait + 1))) w.heap.size 46 (rcs s1 V ph z) from by rw [HS1.out]; exact HA.out.set 25 _)
      have HZ1 := Lib.hid (HZ.out.set_other (p := ⟨w.heap.size, 25, none⟩) (by show w.heap.size + 1 ≠ w.heap.size; omega) (.int .i64 (s.wait + 1)))
      have B1 := Lib.hid (B0.out.setCell (p := ⟨w.heap.size, 25, none⟩) (Nat.le_refl _) (.int .i64 (s.wait + 1)))
      go_upto_region 4 with (fail)
      generalize W2.setCell ⟨w.heap.size, 25, none⟩ (.int .i64 (s.wait + 1)) = W3 at HA1 HZ1 B1 ⊢
      clear a5 a25 f25 hal HA HZ B0
      have a25 : W3.cell? ⟨w.heap.size, 25, none⟩ = some (.int .i64 (s.wait + 1)) := by have := HA1.out.cell 25; rw [HS1.out] at this; exact this
      have a1 : W3.cell? ⟨w.heap.size, 1, none⟩ = some (.int .i64 s.pa) := by have := HA1.out.cell 1; rw [HS1.out] at this; exact this
      have hal := HA1.out.lt
      go_wp2_with (refine wpList_load_box rfl 46 (.tmp 1) rfl _ 0 rfl HA1.out (rcs s1 V ph z).toList (by kernel_rfl) Try.underlying46 rfl (by kernel_rfl) ?_)
      have hr := HR.out.below B1.out
      have hp3 : phS s1 = ph := by rw [HS1.out, HPH.out]; rfl
      have C := Lib.hid (ron_any z (s := s1) (V := V) (w := W3) (by rw [HS1.out]; exact ⟨hr.rm, hr.rg, hr.ro⟩) HF.out (by rw [HS1.out]; exact HHB.out) (by rw [HS1.out]; exact hl) (by rw [HS1.out]; exact HB3.out))
      rw [hp3] at C
      refine C.out.mono ?_
      rintro e w9 ⟨V2, z2, rfl, hz2, hR9, hT9⟩
      obtain ⟨p2, hp2e⟩ : ∃ p2, p2 = phS (onS s1) := ⟨_, rfl⟩
      rw [← hp2e]
      have HZ9 := Lib.hid (HZ1.out.below hT9.below HZ1.out.lt)
      have B9 := Lib.hid (B1.out.trans (hT9.below.mono B1.out.size))
      have HONE9 := Lib.hid (one_rcs hR9 p2 z2)
      have HR9 := Lib.hid hR9
      have HT9 := Lib.hid hT9
      have HP2E := Lib.hid hp2e
      have HZ2 := Lib.hid hz2
      have hal9 := HZ9.out.lt
      clear hR9 hT9 HA1 HZ1 hr hp3 hp2e hz2 C
      go_wp2_with (refine wpList_store_box rfl 46 (.tmp 2) (.tmp 17) rfl rfl _ 0 rfl (rcs (onS s1) V2 p2 z2).toList rfl HZ9.out (rcs (onS s1) V2 p2 z2) (by kernel_rfl) (by kernel_rfl) (by kernel_rfl) HONE9.out ?_)
      have BF := Below.setRow B9.out (g := w.heap.size + 1) (by omega) (rcs (onS s1) V2 p2 z2)
      refine ret_c Try.results17 rfl rfl ((HZ9.out.setRow _).load Try.underlying46 rfl (by kernel_rfl)) ?_
      rw [HT2.out]
      refine ⟨V2, z2, by rw [HP2E.out], HZ2.out, Rt.final HR.out HR9.out HT9.out.m (by rw [onS_many, HS1.out]) BF HZ9.out, ⟨BF, HT9.out.m, fun k hk => ?_, fun k hk => ?_⟩⟩
      · rcases HT9.out.g k hk with h1 | h1
        · exact .inl h1
        · exact .inr (Nat.le_trans B1.out.size h1)
      · rcases HT9.out.o k hk with h1 | h1
        · exact .inl h1
        · exact .inr (Nat.le_trans B1.out.size h1)
    · have hwe : (s.wait + 1 == s.pa) = false := by simp [hw]
      have HT2 := Lib.hid (show tickS s = s1 by rw [HTS.out, if_neg (by omega)])
      clear hw
      go_enter Try.func17, Try.ntmps17
      go_upto_region 1 with (fail)
      generalize (w.alloc (.cells #[.int .i64 s.cl, .int .i64 s.pa, V.m, V.g, .int .i64 s.nu, .int .i64 (ph), .int .i64 (s.vol : Nat), .int .i64 s.c.cl, .int .i64 s.c.nu, .int .i64 s.c.kd, .int .i64 s.c.h1, .int .i64 s.c.h2, .int .i64 s.c.g1, .int .i64 s.c.g2, .string s.c.nm, .string s.c.ot, .int .i64 s.c.m1, .int .i64 s.c.m2, .int .i64 s.c.m3, .string s.c.mt, .bool s.c.fo, .int .i64 s.c.aa, .int .i64 s.c.nn, .int .i64 s.c.tt, .string s.c.bb, .int .i64 s.wait, .int .i64 s.vain, V.o, .int .i64 z.nu, .int .i64 z.co, .int .i64 z.a.co, .int .i64 z.a.h1, .int .i64 z.a.h2, .string z.a.b, .int .i64 z.a.i1, .int .i64 z.a.i2, .int .i64 z.a.i3, .int .i64 z.a.i4, .int .i64 z.a.i5, .int .i64 z.a.i6, .int .i64 z.a.i7, .int .i64 z.a.i8, .slice z.a.na z.a.nl z.a.nc] 46)).alloc (.cells #[.int .i64 0, .int .i64 0, .slice none 0 0, .slice none 0 0, .int .i64 0, .int .i64 0, .int .i64 0, .int .i64 0, .int .i64 0, .int .i64 0, .int .i64 0, .int .i64 0, .int .i64 0, .int .i64 0, .string ⟨#[]⟩, .string ⟨#[]⟩, .int .i64 0, .int .i64 0, .int .i64 0, .string ⟨#[]⟩, .bool false, .int .i64 0, .int .i64 0, .int .i64 0, .string ⟨#[]⟩, .int .i64 0, .int .i64 0, .slice none 0 0, .int .i64 0, .int .i64 0, .int .i64 0, .int .i64 0, .int .i64 0, .string ⟨#[]⟩, .int .i64 0, .int .i64 0, .int .i64 0, .int .i64 0, .int .i64 0, .int .i64 0, .int .i64 0, .int .i64 0, .slice none 0 0] 46) = W2 at HA HZ B0 ⊢
      have a5 : W2.cell? ⟨w.heap.size, 5, none⟩ = some (.int .i64 ph) := HA.out.cell 5
      have a25 : W2.cell? ⟨w.heap.size, 25, none⟩ = some (.int .i64 s.wait) := HA.out.cell 25
      have f25 := HA.out.frozen 25
      have hal := HA.out.lt
      have HA1 := Lib.hid (show Box (W2.setCell ⟨w.heap.size, 25, none⟩ (.int .i64 (s.wait + 1))) w.heap.size 46 (rcs s1 V ph z) from by rw [HS1.out]; exact HA.out.set 25 _)
      have HZ1 := Lib.hid (HZ.out.set_other (p := ⟨w.heap.size, 25, none⟩) (by show w.heap.size + 1 ≠ w.heap.size; omega) (.int .i64 (s.wait + 1)))
      have B1 := Lib.hid (B0.out.setCell (p := ⟨w.heap.size, 25, none⟩) (Nat.le_refl _) (.int .i64 (s.wait + 1)))
      go_upto_region 4 with (fail)
      generalize W2.setCell ⟨w.heap.size, 25, none⟩ (.int .i64 (s.wait + 1)) = W3 at HA1 HZ1 B1 ⊢
      clear a5 a25 f25 hal HA HZ B0
      have a25 : W3.cell? ⟨w.heap.size, 25, none⟩ = some (.int .i64 (s.wait + 1)) := by have := HA1.out.cell 25; rw [HS1.out] at this; exact this
      have a1 : W3.cell? ⟨w.heap.size, 1, none⟩ = some (.int .i64 s.pa) := by have := HA1.out.cell 1; rw [HS1.out] at this; exact this
      have hal := HA1.out.lt
      have hr := HR.out.below B1.out
      have hR1 : Rt W3 V s1 := by rw [HS1.out]; exact ⟨hr.rm, hr.rg, hr.ro⟩
      have HONE1 := Lib.hid (one_rcs hR1 ph z)
      clear hr hR1
      go_wp2_with (first | (refine wpList_load_box rfl 46 (.tmp 1) rfl _ 0 rfl HA1.out (rcs s1 V ph z).toList (by kernel_rfl) Try.underlying46 rfl (by kernel_rfl) ?_) | (refine wpList_store_box rfl 46 (.tmp 2) (.tmp 18) rfl rfl _ 0 rfl (rcs s1 V ph z).toList rfl HZ1.out (rcs s1 V ph z) (by kernel_rfl) (by kernel_rfl) (by kernel_rfl) HONE1.out ?_))
      refine ret_c Try.results17 rfl rfl ((HZ1.out.setRow _).load Try.underlying46 rfl (by kernel_rfl)) ?_
      have BF := Below.setRow B1.out (g := w.heap.size + 1) (by omega) (rcs s1 V ph z)
      have hrF := HR.out.below BF
      rw [HT2.out]
      have key : ∀ wF, Rt wF V s → Rt wF V s1 := by rw [HS1.out]; exact fun _ h => ⟨h.rm, h.rg, h.ro⟩
      refine ⟨V, z, ?_, ?_, key _ hrF, RTo.same BF⟩
      · rw [HPH.out, HS1.out]; rfl
      · rw [HS1.out]; exact HZZ.out
end Go.Proofs.Ytlkilkndjfcejaa
