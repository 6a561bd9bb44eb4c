/- porter: Take. Conditions: the client is in its bounds. -/
import Derived.Test.YtlkilkndjfcejaaPf
namespace Go.Proofs.Ytlkilkndjfcejaa
open Go Go.RowKit
set_option linter.unusedVariables false
set_option linter.unusedSimpArgs false
variable {w w' : World} {base n : Nat} {V V' : Vs} {s s' : St}

theorem take1_any (r : Rs) (b : Nat) (hbx : w.cell? ⟨b, 0, none⟩ = some (.pointer (some ⟨n, 0, none⟩))) (h : Pt w base n V s) (hf : Fit s) (hb : base ≤ w.heap.size) (hl : s.out.length ≤ 500) (hd : s.done = []) :
    Calls Try.prog 35 #[.agg (sc r), .pointer (some ⟨b, 0, none⟩)] w fun e w' => e = .returned (.tuple #[]) ∧ Does w base n V (onS s) w' := by
  have hbl := World.block_lt_of_cell? _ _ hbx
  have H := Lib.hid h
  clear h
  go_enter Try.func35, Try.ntmps35
  go_wp2_with fail
  have HX := Lib.hid ((Below.refl w.heap.size w).alloc (Nat.le_refl _) (.cells (sc r) 81))
  refine (on_any (H.out.alloc _) hf (by rw [World.size_alloc]; omega) hl hd).mono ?_
  rintro e w2 ⟨rfl, V2, hP2, hG2⟩
  have HG := Lib.hid hG2
  have HP2 := Lib.hid hP2
  clear hG2 hP2
  go_wp2
  go_end0
  exact ⟨rfl, V2, HP2.out, Goes.below_l HX.out HG.out⟩
set_option maxHeartbeats 4000000 in
theorem take_no (r : Rp) (h : Pt w base n V s) (ho : Okay s) (hm : meantB s r = false) : Calls Try.prog 15 #[.pointer (some ⟨n, 0, none⟩), .agg (rp r)] w fun e w' => e = .returned (.tuple #[]) ∧ Does w base n V (takeS s r) w' := by
  have ht : takeS s r = s := by rw [takeS, hm]; rfl
  rw [ht]
  have hn := h.box.lt
  have H := Lib.hid h
  have HO := Lib.hid ho
  have hA := Box.new w 26 #[.pointer (some ⟨n, 0, none⟩)]
  have hB := Box.new (w.alloc (.cells #[.pointer (some ⟨n, 0, none⟩)] 26)) 75 (rp r)
  rw [World.size_alloc] at hB
  have HA := Lib.hid (hA.alloc (.cells (rp r) 75))
  have HR := Lib.hid hB
  have HB := Lib.hid (((Below.refl w.heap.size w).alloc (Nat.le_refl _) (.cells #[.pointer (some ⟨n, 0, none⟩)] 26)).alloc (by simp) (.cells (rp r) 75))
  clear h ho hA hB
  go_enter Try.func15, Try.ntmps15
  go_wp2_with (refine wpList_load_box rfl 75 (.tmp 3) rfl _ 0 rfl HR.out [.int .i64 r.vol, .int .i64 r.srv, .int .i64 r.cl, .int .i64 r.nu, .int .i64 r.co, .int .i64 r.a.co, .int .i64 r.a.h1, .int .i64 r.a.h2, .string r.a.b, .int .i64 r.a.i1, .int .i64 r.a.i2, .int .i64 r.a.i3, .int .i64 r.a.i4, .int .i64 r.a.i5, .int .i64 r.a.i6, .int .i64 r.a.i7, .int .i64 r.a.i8, .slice r.a.na r.a.nl r.a.nc] rfl Try.underlying75 rfl (by kernel_rfl) ?_)
  generalize (w.alloc (.cells #[.pointer (some ⟨n, 0, none⟩)] 26)).alloc (.cells #[.int .i64 r.vol, .int .i64 r.srv, .int .i64 r.cl, .int .i64 r.nu, .int .i64 r.co, .int .i64 r.a.co, .int .i64 r.a.h1, .int .i64 r.a.h2, .string r.a.b, .int .i64 r.a.i1, .int .i64 r.a.i2, .int .i64 r.a.i3, .int .i64 r.a.i4, .int .i64 r.a.i5, .int .i64 r.a.i6, .int .i64 r.a.i7, .int .i64 r.a.i8, .slice r.a.na r.a.nl r.a.nc] 75) = w0 at HA HR HB ⊢
  have C1 := Lib.hid (meant_any r (H.out.below HB.out (Nat.le_refl _)) HO.out)
  rw [hm] at C1
  refine C1.out.mono ?_
  rintro e w1 ⟨rfl, b1⟩
  have HB1 := Lib.hid (HB.out.trans (b1.mono HB.out.size))
  have HA1 := Lib.hid (HA.out.below b1 HA.out.lt)
  have HR1 := Lib.hid (HR.out.below b1 HR.out.lt)
  have HP1 := Lib.hid (H.out.below HB1.out (Nat.le_refl _))
  have a0 : w1.cell? ⟨w.heap.size, 0, none⟩ = some (.pointer (some ⟨n, 0, none⟩)) := HA1.out.cell 0
  have hw1 : w.heap.size + 1 < w1.heap.size := HR1.out.lt
  have r4 : w1.cell? ⟨w.heap.size + 1, 4, none⟩ = some (.int .i64 r.co) := HR1.out.cell 4
  clear b1 C1 HA HR
  go_wp2
  refine bodyPost_ret (results_none rfl _ _ _) rfl ?_
  exact ⟨rfl, Does.same H.out HB1.out⟩
set_option maxHeartbeats 4000000 in
theorem take_190 (r : Rp) (h : Pt w base n V s) (ho : Okay s) (hb : base ≤ w.heap.size) (hl : s.out.length ≤ 500) (hm : meantB s r = true) (hc : r.co = 190) : Calls Try.prog 15 #[.pointer (some ⟨n, 0, none⟩), .agg (rp r)] w fun e w' => e = .returned (.tuple #[]) ∧ Does w base n V (takeS s r) w' := by
  have ht : takeS s r = onS s := by rw [takeS, if_pos hm, if_pos (show r.co = 190 ∨ r.co = 191 ∨ r.co = 210 from .inl hc)]
  have hbz : s.busy = true := by simp only [meantB, Bool.and_eq_true] at hm; exact hm.1.1.1.1
  have HD := Lib.hid (ho.busy hbz).2.2
  clear hbz
  rw [ht]
  have HC := Lib.hid hc
  clear hc ht
  have hn := h.box.lt
  have H := Lib.hid h
  have HO := Lib.hid ho
  have hA := Box.new w 26 #[.pointer (some ⟨n, 0, none⟩)]
  have hB := Box.new (w.alloc (.cells #[.pointer (some ⟨n, 0, none⟩)] 26)) 75 (rp r)
  rw [World.size_alloc] at hB
  have HA := Lib.hid (hA.alloc (.cells (rp r) 75))
  have HR := Lib.hid hB
  have HB := Lib.hid (((Below.refl w.heap.size w).alloc (Nat.le_refl _) (.cells #[.pointer (some ⟨n, 0, none⟩)] 26)).alloc (by simp) (.cells (rp r) 75))
  clear h ho hA hB
  go_enter Try.func15, Try.ntmps15
  go_wp2_with (refine wpList_load_box rfl 75 (.tmp 3) rfl _ 0 rfl HR.out [.int .i64 r.vol, .int .i64 r.srv, .int .i64 r.cl, .int .i64 r.nu, .int .i64 r.co, .int .i64 r.a.co, .int .i64 r.a.h1, .int .i64 r.a.h2, .string r.a.b, .int .i64 r.a.i1, .int .i64 r.a.i2, .int .i64 r.a.i3, .int .i64 r.a.i4, .int .i64 r.a.i5, .int .i64 r.a.i6, .int .i64 r.a.i7, .int .i64 r.a.i8, .slice r.a.na r.a.nl r.a.nc] rfl Try.underlying75 rfl (by kernel_rfl) ?_)
  generalize (w.alloc (.cells #[.pointer (some ⟨n, 0, none⟩)] 26)).alloc (.cells #[.int .i64 r.vol, .int .i64 r.srv, .int .i64 r.cl, .int .i64 r.nu, .int .i64 r.co, .int .i64 r.a.co, .int .i64 r.a.h1, .int .i64 r.a.h2, .string r.a.b, .int .i64 r.a.i1, .int .i64 r.a.i2, .int .i64 r.a.i3, .int .i64 r.a.i4, .int .i64 r.a.i5, .int .i64 r.a.i6, .int .i64 r.a.i7, .int .i64 r.a.i8, .slice r.a.na r.a.nl r.a.nc] 75) = w0 at HA HR HB ⊢
  have C1 := Lib.hid (meant_any r (H.out.below HB.out (Nat.le_refl _)) HO.out)
  rw [hm] at C1
  refine C1.out.mono ?_
  rintro e w1 ⟨rfl, b1⟩
  have HB1 := Lib.hid (HB.out.trans (b1.mono HB.out.size))
  have HA1 := Lib.hid (HA.out.below b1 HA.out.lt)
  have HR1 := Lib.hid (HR.out.below b1 HR.out.lt)
  have HP1 := Lib.hid (H.out.below HB1.out (Nat.le_refl _))
  have a0 : w1.cell? ⟨w.heap.size, 0, none⟩ = some (.pointer (some ⟨n, 0, none⟩)) := HA1.out.cell 0
  have hw1 : w.heap.size + 1 < w1.heap.size := HR1.out.lt
  have r4 : w1.cell? ⟨w.heap.size + 1, 4, none⟩ = some (.int .i64 r.co) := HR1.out.cell 4
  clear b1 C1 HA HR
  rw [HC.out] at r4
  have HX := Lib.hid ((Below.refl w1.heap.size w1).alloc (Nat.le_refl _) (.cells (sc ⟨0, 190, zeroAn⟩) 81))
  have HAX := Lib.hid (HA1.out.alloc (.cells (sc ⟨0, 190, zeroAn⟩) 81))
  go_wp2_with fail
  refine (take1_any ⟨0, 190, zeroAn⟩ w.heap.size (HAX.out.cell 0) (HP1.out.alloc _) HO.out.fit (Nat.le_trans hb (Nat.le_trans HB1.out.size HX.out.size)) hl HD.out).mono ?_
  rintro e w2 ⟨rfl, V2, hP2, hG2⟩
  have HG := Lib.hid hG2
  have HP2 := Lib.hid hP2
  clear hG2 hP2
  go_wp2
  go_end0
  exact ⟨rfl, V2, HP2.out, Goes.below_l HB1.out (Goes.below_l (HX.out) HG.out)⟩
set_option maxHeartbeats 4000000 in
theorem take_191 (r : Rp) (h : Pt w base n V s) (ho : Okay s) (hb : base ≤ w.heap.size) (hl : s.out.length ≤ 500) (hm : meantB s r = true) (hc : r.co = 191) : Calls Try.prog 15 #[.pointer (some ⟨n, 0, none⟩), .agg (rp r)] w fun e w' => e = .returned (.tuple #[]) ∧ Does w base n V (takeS s r) w' := by
  have ht : takeS s r = onS s := by rw [takeS, if_pos hm, if_pos (show r.co = 190 ∨ r.co = 191 ∨ r.co = 210 from .inr (.inl hc))]
  have hbz : s.busy = true := by simp only [meantB, Bool.and_eq_true] at hm; exact hm.1.1.1.1
  have HD := Lib.hid (ho.busy hbz).2.2
  clear hbz
  rw [ht]
  have HC := Lib.hid hc
  clear hc ht
  have hn := h.box.lt
  have H := Lib.hid h
  have HO := Lib.hid ho
  have hA := Box.new w 26 #[.pointer (some ⟨n, 0, none⟩)]
  have hB := Box.new (w.alloc (.cells #[.pointer (some ⟨n, 0, none⟩)] 26)) 75 (rp r)
  rw [World.size_alloc] at hB
  have HA := Lib.hid (hA.alloc (.cells (rp r) 75))
  have HR := Lib.hid hB
  have HB := Lib.hid (((Below.refl w.heap.size w).alloc (Nat.le_refl _) (.cells #[.pointer (some ⟨n, 0, none⟩)] 26)).alloc (by simp) (.cells (rp r) 75))
  clear h ho hA hB
  go_enter Try.func15, Try.ntmps15
  go_wp2_with (refine wpList_load_box rfl 75 (.tmp 3) rfl _ 0 rfl HR.out [.int .i64 r.vol, .int .i64 r.srv, .int .i64 r.cl, .int .i64 r.nu, .int .i64 r.co, .int .i64 r.a.co, .int .i64 r.a.h1, .int .i64 r.a.h2, .string r.a.b, .int .i64 r.a.i1, .int .i64 r.a.i2, .int .i64 r.a.i3, .int .i64 r.a.i4, .int .i64 r.a.i5, .int .i64 r.a.i6, .int .i64 r.a.i7, .int .i64 r.a.i8, .slice r.a.na r.a.nl r.a.nc] rfl Try.underlying75 rfl (by kernel_rfl) ?_)
  generalize (w.alloc (.cells #[.pointer (some ⟨n, 0, none⟩)] 26)).alloc (.cells #[.int .i64 r.vol, .int .i64 r.srv, .int .i64 r.cl, .int .i64 r.nu, .int .i64 r.co, .int .i64 r.a.co, .int .i64 r.a.h1, .int .i64 r.a.h2, .string r.a.b, .int .i64 r.a.i1, .int .i64 r.a.i2, .int .i64 r.a.i3, .int .i64 r.a.i4, .int .i64 r.a.i5, .int .i64 r.a.i6, .int .i64 r.a.i7, .int .i64 r.a.i8, .slice r.a.na r.a.nl r.a.nc] 75) = w0 at HA HR HB ⊢
  have C1 := Lib.hid (meant_any r (H.out.below HB.out (Nat.le_refl _)) HO.out)
  rw [hm] at C1
  refine C1.out.mono ?_
  rintro e w1 ⟨rfl, b1⟩
  have HB1 := Lib.hid (HB.out.trans (b1.mono HB.out.size))
  have HA1 := Lib.hid (HA.out.below b1 HA.out.lt)
  have HR1 := Lib.hid (HR.out.below b1 HR.out.lt)
  have HP1 := Lib.hid (H.out.below HB1.out (Nat.le_refl _))
  have a0 : w1.cell? ⟨w.heap.size, 0, none⟩ = some (.pointer (some ⟨n, 0, none⟩)) := HA1.out.cell 0
  have hw1 : w.heap.size + 1 < w1.heap.size := HR1.out.lt
  have r4 : w1.cell? ⟨w.heap.size + 1, 4, none⟩ = some (.int .i64 r.co) := HR1.out.cell 4
  clear b1 C1 HA HR
  rw [HC.out] at r4
  have HX := Lib.hid ((Below.refl w1.heap.size w1).alloc (Nat.le_refl _) (.cells (sc ⟨0, 191, zeroAn⟩) 81))
  have HAX := Lib.hid (HA1.out.alloc (.cells (sc ⟨0, 191, zeroAn⟩) 81))
  go_wp2_with fail
  refine (take1_any ⟨0, 191, zeroAn⟩ w.heap.size (HAX.out.cell 0) (HP1.out.alloc _) HO.out.fit (Nat.le_trans hb (Nat.le_trans HB1.out.size HX.out.size)) hl HD.out).mono ?_
  rintro e w2 ⟨rfl, V2, hP2, hG2⟩
  have HG := Lib.hid hG2
  have HP2 := Lib.hid hP2
  clear hG2 hP2
  go_wp2
  go_end0
  exact ⟨rfl, V2, HP2.out, Goes.below_l HB1.out (Goes.below_l (HX.out) HG.out)⟩
set_option maxHeartbeats 4000000 in
theorem take_210 (r : Rp) (h : Pt w base n V s) (ho : Okay s) (hb : base ≤ w.heap.size) (hl : s.out.length ≤ 500) (hm : meantB s r = true) (hc : r.co = 210) : Calls Try.prog 15 #[.pointer (some ⟨n, 0, none⟩), .agg (rp r)] w fun e w' => e = .returned (.tuple #[]) ∧ Does w base n V (takeS s r) w' := by
  have ht : takeS s r = onS s := by rw [takeS, if_pos hm, if_pos (show r.co = 190 ∨ r.co = 191 ∨ r.co = 210 from .inr (.inr hc))]
  have hbz : s.busy = true := by simp only [meantB, Bool.and_eq_true] at hm; exact hm.1.1.1.1
  have HD := Lib.hid (ho.busy hbz).2.2
  clear hbz
  rw [ht]
  have HC := Lib.hid hc
  clear hc ht
  have hn := h.box.lt
  have H := Lib.hid h
  have HO := Lib.hid ho
  have hA := Box.new w 26 #[.pointer (some ⟨n, 0, none⟩)]
  have hB := Box.new (w.alloc (.cells #[.pointer (some ⟨n, 0, none⟩)] 26)) 75 (rp r)
  rw [World.size_alloc] at hB
  have HA := Lib.hid (hA.alloc (.cells (rp r) 75))
  have HR := Lib.hid hB
  have HB := Lib.hid (((Below.refl w.heap.size w).alloc (Nat.le_refl _) (.cells #[.pointer (some ⟨n, 0, none⟩)] 26)).alloc (by simp) (.cells (rp r) 75))
  clear h ho hA hB
  go_enter Try.func15, Try.ntmps15
  go_wp2_with (refine wpList_load_box rfl 75 (.tmp 3) rfl _ 0 rfl HR.out [.int .i64 r.vol, .int .i64 r.srv, .int .i64 r.cl, .int .i64 r.nu, .int .i64 r.co, .int .i64 r.a.co, .int .i64 r.a.h1, .int .i64 r.a.h2, .string r.a.b, .int .i64 r.a.i1, .int .i64 r.a.i2, .int .i64 r.a.i3, .int .i64 r.a.i4, .int .i64 r.a.i5, .int .i64 r.a.i6, .int .i64 r.a.i7, .int .i64 r.a.i8, .slice r.a.na r.a.nl r.a.nc] rfl Try.underlying75 rfl (by kernel_rfl) ?_)
  generalize (w.alloc (.cells #[.pointer (some ⟨n, 0, none⟩)] 26)).alloc (.cells #[.int .i64 r.vol, .int .i64 r.srv, .int .i64 r.cl, .int .i64 r.nu, .int .i64 r.co, .int .i64 r.a.co, .int .i64 r.a.h1, .int .i64 r.a.h2, .string r.a.b, .int .i64 r.a.i1, .int .i64 r.a.i2, .int .i64 r.a.i3, .int .i64 r.a.i4, .int .i64 r.a.i5, .int .i64 r.a.i6, .int .i64 r.a.i7, .int .i64 r.a.i8, .slice r.a.na r.a.nl r.a.nc] 75) = w0 at HA HR HB ⊢
  have C1 := Lib.hid (meant_any r (H.out.below HB.out (Nat.le_refl _)) HO.out)
  rw [hm] at C1
  refine C1.out.mono ?_
  rintro e w1 ⟨rfl, b1⟩
  have HB1 := Lib.hid (HB.out.trans (b1.mono HB.out.size))
  have HA1 := Lib.hid (HA.out.below b1 HA.out.lt)
  have HR1 := Lib.hid (HR.out.below b1 HR.out.lt)
  have HP1 := Lib.hid (H.out.below HB1.out (Nat.le_refl _))
  have a0 : w1.cell? ⟨w.heap.size, 0, none⟩ = some (.pointer (some ⟨n, 0, none⟩)) := HA1.out.cell 0
  have hw1 : w.heap.size + 1 < w1.heap.size := HR1.out.lt
  have r4 : w1.cell? ⟨w.heap.size + 1, 4, none⟩ = some (.int .i64 r.co) := HR1.out.cell 4
  clear b1 C1 HA HR
  rw [HC.out] at r4
  have HX := Lib.hid ((Below.refl w1.heap.size w1).alloc (Nat.le_refl _) (.cells (sc ⟨0, 210, zeroAn⟩) 81))
  have HAX := Lib.hid (HA1.out.alloc (.cells (sc ⟨0, 210, zeroAn⟩) 81))
  go_wp2_with fail
  refine (take1_any ⟨0, 210, zeroAn⟩ w.heap.size (HAX.out.cell 0) (HP1.out.alloc _) HO.out.fit (Nat.le_trans hb (Nat.le_trans HB1.out.size HX.out.size)) hl HD.out).mono ?_
  rintro e w2 ⟨rfl, V2, hP2, hG2⟩
  have HG := Lib.hid hG2
  have HP2 := Lib.hid hP2
  clear hG2 hP2
  go_wp2
  go_end0
  exact ⟨rfl, V2, HP2.out, Goes.below_l HB1.out (Goes.below_l (HX.out) HG.out)⟩
set_option maxHeartbeats 4000000 in
theorem take_0 (r : Rp) (h : Pt w base n V s) (ho : Okay s) (hb : base ≤ w.heap.size) (hl : s.out.length ≤ 500) (hm : meantB s r = true) (hc : r.co = 0) : Calls Try.prog 15 #[.pointer (some ⟨n, 0, none⟩), .agg (rp r)] w fun e w' => e = .returned (.tuple #[]) ∧ Does w base n V (takeS s r) w' := by
  have ht : takeS s r = endS s ⟨0, 0, r.a⟩ := by rw [takeS, if_pos hm, if_neg (by omega), if_pos hc, hc]
  have hbz : s.busy = true := by simp only [meantB, Bool.and_eq_true] at hm; exact hm.1.1.1.1
  have HD := Lib.hid (ho.busy hbz).2.2
  clear hbz
  rw [ht]
  have HC := Lib.hid hc
  clear hc ht
  have hn := h.box.lt
  have H := Lib.hid h
  have HO := Lib.hid ho
  have hA := Box.new w 26 #[.pointer (some ⟨n, 0, none⟩)]
  have hB := Box.new (w.alloc (.cells #[.pointer (some ⟨n, 0, none⟩)] 26)) 75 (rp r)
  rw [World.size_alloc] at hB
  have HA := Lib.hid (hA.alloc (.cells (rp r) 75))
  have HR := Lib.hid hB
  have HB := Lib.hid (((Below.refl w.heap.size w).alloc (Nat.le_refl _) (.cells #[.pointer (some ⟨n, 0, none⟩)] 26)).alloc (by simp) (.cells (rp r) 75))
  clear h ho hA hB
  go_enter Try.func15, Try.ntmps15
  go_wp2_with (refine wpList_load_box rfl 75 (.tmp 3) rfl _ 0 rfl HR.out [.int .i64 r.vol, .int .i64 r.srv, .int .i64 r.cl, .int .i64 r.nu, .int .i64 r.co, .int .i64 r.a.co, .int .i64 r.a.h1, .int .i64 r.a.h2, .string r.a.b, .int .i64 r.a.i1, .int .i64 r.a.i2, .int .i64 r.a.i3, .int .i64 r.a.i4, .int .i64 r.a.i5, .int .i64 r.a.i6, .int .i64 r.a.i7, .int .i64 r.a.i8, .slice r.a.na r.a.nl r.a.nc] rfl Try.underlying75 rfl (by kernel_rfl) ?_)
  generalize (w.alloc (.cells #[.pointer (some ⟨n, 0, none⟩)] 26)).alloc (.cells #[.int .i64 r.vol, .int .i64 r.srv, .int .i64 r.cl, .int .i64 r.nu, .int .i64 r.co, .int .i64 r.a.co, .int .i64 r.a.h1, .int .i64 r.a.h2, .string r.a.b, .int .i64 r.a.i1, .int .i64 r.a.i2, .int .i64 r.a.i3, .int .i64 r.a.i4, .int .i64 r.a.i5, .int .i64 r.a.i6, .int .i64 r.a.i7, .int .i64 r.a.i8, .slice r.a.na r.a.nl r.a.nc] 75) = w0 at HA HR HB ⊢
  have C1 := Lib.hid (meant_any r (H.out.below HB.out (Nat.le_refl _)) HO.out)
  rw [hm] at C1
  refine C1.out.mono ?_
  rintro e w1 ⟨rfl, b1⟩
  have HB1 := Lib.hid (HB.out.trans (b1.mono HB.out.size))
  have HA1 := Lib.hid (HA.out.below b1 HA.out.lt)
  have HR1 := Lib.hid (HR.out.below b1 HR.out.lt)
  have HP1 := Lib.hid (H.out.below HB1.out (Nat.le_refl _))
  have a0 : w1.cell? ⟨w.heap.size, 0, none⟩ = some (.pointer (some ⟨n, 0, none⟩)) := HA1.out.cell 0
  have hw1 : w.heap.size + 1 < w1.heap.size := HR1.out.lt
  have r4 : w1.cell? ⟨w.heap.size + 1, 4, none⟩ = some (.int .i64 r.co) := HR1.out.cell 4
  clear b1 C1 HA HR
  rw [HC.out] at r4
  have HX := Lib.hid ((Below.refl w1.heap.size w1).alloc (Nat.le_refl _) (.cells (sc ⟨0, 0, r.a⟩) 81))
  go_wp2_with (refine wpList_load_box rfl 71 (.tmp 29) rfl _ 5 rfl (HR1.out.alloc _) [.int .i64 r.a.co, .int .i64 r.a.h1, .int .i64 r.a.h2, .string r.a.b, .int .i64 r.a.i1, .int .i64 r.a.i2, .int .i64 r.a.i3, .int .i64 r.a.i4, .int .i64 r.a.i5, .int .i64 r.a.i6, .int .i64 r.a.i7, .int .i64 r.a.i8, .slice r.a.na r.a.nl r.a.nc] rfl Try.underlying71 rfl (by kernel_rfl) ?_)
  refine (end_any ⟨0, 0, r.a⟩ (HP1.out.alloc _) (Nat.le_trans hb (Nat.le_trans HB1.out.size HX.out.size))).mono ?_
  rintro e w2 ⟨rfl, V2, hP2, hG2⟩
  have HG := Lib.hid hG2
  have HP2 := Lib.hid hP2
  clear hG2 hP2
  go_wp2
  go_end0
  exact ⟨rfl, V2, HP2.out, Goes.below_l HB1.out (Goes.below_l (HX.out) HG.out)⟩
set_option maxHeartbeats 4000000 in
theorem take_else (r : Rp) (h : Pt w base n V s) (ho : Okay s) (hb : base ≤ w.heap.size) (hl : s.out.length ≤ 500) (hm : meantB s r = true) (h1 : r.co ≠ 190) (h2 : r.co ≠ 191) (h3 : r.co ≠ 210) (h4 : r.co ≠ 0) : Calls Try.prog 15 #[.pointer (some ⟨n, 0, none⟩), .agg (rp r)] w fun e w' => e = .returned (.tuple #[]) ∧ Does w base n V (takeS s r) w' := by
  have ht : takeS s r = endS s ⟨0, r.co, zeroAn⟩ := by rw [takeS, if_pos hm, if_neg (by omega), if_neg h4]
  have hbz : s.busy = true := by simp only [meantB, Bool.and_eq_true] at hm; exact hm.1.1.1.1
  have HD := Lib.hid (ho.busy hbz).2.2
  clear hbz
  rw [ht]
  have e190 : (r.co == 190) = false := by simpa using h1
  have e191 : (r.co == 191) = false := by simpa using h2
  have e210 : (r.co == 210) = false := by simpa using h3
  have e0 : (r.co == 0) = false := by simpa using h4
  clear h1 h2 h3 h4 ht
  have hn := h.box.lt
  have H := Lib.hid h
  have HO := Lib.hid ho
  have hA := Box.new w 26 #[.pointer (some ⟨n, 0, none⟩)]
  have hB := Box.new (w.alloc (.cells #[.pointer (some ⟨n, 0, none⟩)] 26)) 75 (rp r)
  rw [World.size_alloc] at hB
  have HA := Lib.hid (hA.alloc (.cells (rp r) 75))
  have HR := Lib.hid hB
  have HB := Lib.hid (((Below.refl w.heap.size w).alloc (Nat.le_refl _) (.cells #[.pointer (some ⟨n, 0, none⟩)] 26)).alloc (by simp) (.cells (rp r) 75))
  clear h ho hA hB
  go_enter Try.func15, Try.ntmps15
  go_wp2_with (refine wpList_load_box rfl 75 (.tmp 3) rfl _ 0 rfl HR.out [.int .i64 r.vol, .int .i64 r.srv, .int .i64 r.cl, .int .i64 r.nu, .int .i64 r.co, .int .i64 r.a.co, .int .i64 r.a.h1, .int .i64 r.a.h2, .string r.a.b, .int .i64 r.a.i1, .int .i64 r.a.i2, .int .i64 r.a.i3, .int .i64 r.a.i4, .int .i64 r.a.i5, .int .i64 r.a.i6, .int .i64 r.a.i7, .int .i64 r.a.i8, .slice r.a.na r.a.nl r.a.nc] rfl Try.underlying75 rfl (by kernel_rfl) ?_)
  generalize (w.alloc (.cells #[.pointer (some ⟨n, 0, none⟩)] 26)).alloc (.cells #[.int .i64 r.vol, .int .i64 r.srv, .int .i64 r.cl, .int .i64 r.nu, .int .i64 r.co, .int .i64 r.a.co, .int .i64 r.a.h1, .int .i64 r.a.h2, .string r.a.b, .int .i64 r.a.i1, .int .i64 r.a.i2, .int .i64 r.a.i3, .int .i64 r.a.i4, .int .i64 r.a.i5, .int .i64 r.a.i6, .int .i64 r.a.i7, .int .i64 r.a.i8, .slice r.a.na r.a.nl r.a.nc] 75) = w0 at HA HR HB ⊢
  have C1 := Lib.hid (meant_any r (H.out.below HB.out (Nat.le_refl _)) HO.out)
  rw [hm] at C1
  refine C1.out.mono ?_
  rintro e w1 ⟨rfl, b1⟩
  have HB1 := Lib.hid (HB.out.trans (b1.mono HB.out.size))
  have HA1 := Lib.hid (HA.out.below b1 HA.out.lt)
  have HR1 := Lib.hid (HR.out.below b1 HR.out.lt)
  have HP1 := Lib.hid (H.out.below HB1.out (Nat.le_refl _))
  have a0 : w1.cell? ⟨w.heap.size, 0, none⟩ = some (.pointer (some ⟨n, 0, none⟩)) := HA1.out.cell 0
  have hw1 : w.heap.size + 1 < w1.heap.size := HR1.out.lt
  have r4 : w1.cell? ⟨w.heap.size + 1, 4, none⟩ = some (.int .i64 r.co) := HR1.out.cell 4
  clear b1 C1 HA HR
  have HX := Lib.hid ((Below.refl w1.heap.size w1).alloc (Nat.le_refl _) (.cells (sc ⟨0, r.co, zeroAn⟩) 81))
  go_wp2_with (refine wpList_load_box rfl 71 (.tmp 29) rfl _ 5 rfl (HR1.out.alloc _) [.int .i64 r.a.co, .int .i64 r.a.h1, .int .i64 r.a.h2, .string r.a.b, .int .i64 r.a.i1, .int .i64 r.a.i2, .int .i64 r.a.i3, .int .i64 r.a.i4, .int .i64 r.a.i5, .int .i64 r.a.i6, .int .i64 r.a.i7, .int .i64 r.a.i8, .slice r.a.na r.a.nl r.a.nc] rfl Try.underlying71 rfl (by kernel_rfl) ?_)
  refine (end_any ⟨0, r.co, zeroAn⟩ (HP1.out.alloc _) (Nat.le_trans hb (Nat.le_trans HB1.out.size HX.out.size))).mono ?_
  rintro e w2 ⟨rfl, V2, hP2, hG2⟩
  have HG := Lib.hid hG2
  have HP2 := Lib.hid hP2
  clear hG2 hP2
  go_wp2
  go_end0
  exact ⟨rfl, V2, HP2.out, Goes.below_l HB1.out (Goes.below_l (HX.out) HG.out)⟩
theorem take_any (r : Rp) (h : Pt w base n V s) (ho : Okay s) (hb : base ≤ w.heap.size) (hl : s.out.length ≤ 500) : Calls Try.prog 15 #[.pointer (some ⟨n, 0, none⟩), .agg (rp r)] w fun e w' => e = .returned (.tuple #[]) ∧ Does w base n V (takeS s r) w' := by
  cases hm : meantB s r
  · exact take_no r h ho hm
  · by_cases h1 : r.co = 190
    · exact take_190 r h ho hb hl hm h1
    by_cases h2 : r.co = 191
    · exact take_191 r h ho hb hl hm h2
    by_cases h3 : r.co = 210
    · exact take_210 r h ho hb hl hm h3
    by_cases h4 : r.co = 0
    · exact take_0 r h ho hb hl hm h4
    · exact take_else r h ho hb hl hm h1 h2 h3 h4
end Go.Proofs.Ytlkilkndjfcejaa
