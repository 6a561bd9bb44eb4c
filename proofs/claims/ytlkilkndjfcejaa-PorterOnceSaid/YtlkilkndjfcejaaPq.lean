/- porter: PorterEnds, the walk of a call that is under way. Conditions: the client can be, the volume is there. -/
import Derived.Test.YtlkilkndjfcejaaPp
namespace Go.Proofs.Ytlkilkndjfcejaa
open Go Go.RowKit
set_option linter.unusedVariables false
set_option linter.unusedSimpArgs false
variable {w w' : World} {base n : Nat} {V V' : Vs} {s s' : St}

set_option maxRecDepth 100000 in
set_option maxHeartbeats 8000000 in
theorem ends_main (W : World) (cl : Int) (P vol m : Nat) (x : Addr) (cap lr cr : Nat) (ar : Option Addr) (rs : List Rp) (hrs : RepsAt W ar lr rs) (hlr : lr ≤ 100) (zs : List Int) (h : Ints .i64 W (some x) zs.length zs) (hy : newB cl zs (P : Int) = true) (hP : P ≤ 60) (hm : zs[vol]? = some (m : Int)) :
    Calls Try.prog 5 #[.agg #[.int .i64 cl, .slice (some x) zs.length cap, .int .i64 (P : Nat)], .int .i64 (vol : Nat), .slice ar lr cr] W (tpost W) := by
  have hvl : vol < zs.length := (List.getElem?_eq_some_iff.1 hm).1
  have hok := newS_ok cl zs P hy
  have hmr := hok.fit.many vol m hm
  have hst : startB (newS cl zs P) (vol : Int) c9 = true := by
    rw [new_start_any, thereB]
    simp only [Bool.and_eq_true, decide_eq_true_eq]
    exact ⟨by omega, by show (vol : Int) < (zs.length : Int); omega⟩
  have hT0 := Within.start cl zs P vol hy hvl m (by rw [List.getD_eq_getElem?_getD, hm]; rfl)
  have hOB := OutB.start cl zs P (vol : Int)
  have hok1 := hok.start (vol : Int) c9 (by show (0 : Int) < 100000; omega)
  have hpos : 0 < (P : Int) := hok.fit.pa0
  have B0 := Lib.hid ((Below.refl W.heap.size W).alloc (Nat.le_refl _) (.cells #[.int .i64 cl, .slice (some x) zs.length cap, .int .i64 (P : Nat)] 24))
  obtain ⟨W0, hW0⟩ : ∃ W0, W0 = W.alloc (.cells #[.int .i64 cl, .slice (some x) zs.length cap, .int .i64 (P : Nat)] 24) := ⟨_, rfl⟩
  have HX := Lib.hid (Box.new W 24 #[.int .i64 cl, .slice (some x) zs.length cap, .int .i64 (P : Nat)])
  have hI0 := h.below B0.out
  rw [← hW0] at B0 HX hI0
  have C0 := new_yes W0 cl P x zs.length cap zs hI0 hy
  unfold NewPost at C0
  have C0 := Lib.hid C0
  have HI := Lib.hid h
  obtain ⟨S0, hS0⟩ : ∃ S0, S0 = newS cl zs P := ⟨_, rfl⟩
  obtain ⟨S1, hS1⟩ : ∃ S1, S1 = startS S0 (vol : Int) c9 := ⟨_, rfl⟩
  have P1 := fun (w : World) (V : Vs) (n : Nat) (h : Pt w W0.heap.size n V S0) (hb : W0.heap.size ≤ w.heap.size) => start_any (vol : Int) c9 h (by rw [hS0]; exact hok) hb (by rw [hS0]; show ([] : List Rq).length ≤ 500; simp) (by rw [hS0]; show (0 : Int) < 100000; omega)
  rw [← hS0] at C0 hst hT0 hok1 hOB
  rw [hst, ← hS1] at P1
  rw [← hS1] at hT0 hOB
  rw [← hS1] at hok1
  have HP1 := Lib.hid P1
  have HT0 := Lib.hid hT0
  have HOK := Lib.hid hok1
  have HM := Lib.hid hm
  have HOB := Lib.hid hOB
  have HRS := Lib.hid hrs
  have HW0 := Lib.hid hW0
  obtain ⟨q, hq⟩ : ∃ q, q = 3 * m * P := ⟨_, rfl⟩
  obtain ⟨t, ht⟩ : ∃ t, t = 3 * m := ⟨_, rfl⟩
  have hm7 : m ≤ 7 := by omega
  have hm1 : 1 ≤ m := by omega
  have hq1 : q ≤ 1260 := by rw [hq]; exact Nat.le_trans (Nat.mul_le_mul (show 3 * m ≤ 21 by omega) hP) (by omega)
  have w1 : IntKind.i64.wrap (3 * (m : Int)) = (t : Int) := by rw [IntKind.wrap_i64, ht]; omega
  have w2 : IntKind.i64.wrap ((t : Int) * (P : Int)) = (q : Int) := by
    have e : (t : Int) * (P : Int) = ((t * P : Nat) : Int) := by simp
    rw [e, ht, ← hq, IntKind.wrap_i64]; omega
  obtain ⟨T, hT⟩ : ∃ T, T = q := ⟨_, rfl⟩
  have w3 : (q : Int) = (q : Int) := rfl
  have HTQ := Lib.hid hT
  have hT5 : T ≤ 1260 := by omega
  have HQ := Lib.hid hq
  have HTT := Lib.hid ht
  have ht21 : t ≤ 21 := by omega
  clear h hy hm hok hmr hst hT0 hok1 hpos hI0 hS0 hS1 P1 hq ht hW0 hT hOB hrs
  go_enter Try.func5, Try.ntmps5
  go_wp2_with fail
  rw [← HW0.out]
  refine C0.out.mono ?_
  rintro e wa ⟨n, V, rfl, hP0, b1⟩
  have HB := Lib.hid b1
  have HP0 := Lib.hid hP0
  have HX1 := Lib.hid (HX.out.below b1 (by rw [HW0.out, World.size_alloc]; omega))
  have x0 : wa.cell? ⟨W.heap.size, 0, none⟩ = some (.int .i64 cl) := HX1.out.cell 0
  have x1 : wa.cell? ⟨W.heap.size, 1, none⟩ = some (.slice (some x) zs.length cap) := HX1.out.cell 1
  have x2 : wa.cell? ⟨W.heap.size, 2, none⟩ = some (.int .i64 (P : Nat)) := HX1.out.cell 2
  have hxl := HX1.out.lt
  have hne := ptr_ne n
  have hp60 : ¬ 60 < P := by omega
  have hl100 : ¬ 100 < lr := by omega
  clear hP0 b1 C0 HX
  unfold c9 at HP1
  go_wp2_with fail
  refine (HP1.out wa V n HP0.out HB.out.size).mono ?_
  rintro e wb ⟨rfl, V2, hP2, g2⟩
  have HB2 := Lib.hid (g2.below HB.out (Nat.le_refl _) HP0.out.of_ge)
  have HQ2 := Lib.hid hP2
  have hsb : W.heap.size < W0.heap.size := by rw [HW0.out, World.size_alloc]; omega
  have HX2 := Lib.hid (HX1.out.touch g2.touch (fun ho => by have := HP0.out.of_ge _ ho; omega))
  have hbW := B0.out.trans (HB2.out.mono B0.out.size)
  have HBW := Lib.hid hbW
  clear hP2 g2 HB HP0 HX1 HP1 x0 x1 x2 hxl hne hp60 hl100 hbW
  go_wp2_with fail
  go_loopw [10, 61] (fun _ i wr => ∃ (k : Nat) (V : Vs) (s : St), k ≤ lr ∧ i = .int .i64 k ∧ Pt wr W0.heap.size n V s ∧ Okay s ∧ Within s q ∧ OutB s ∧ Box wr W.heap.size 24 #[.int .i64 cl, .slice (some x) zs.length cap, .int .i64 (P : Nat)] ∧ Below W0.heap.size W0 wr) (fun _ i _ => lr - (intOf i).toNat)
  case atStart => exact ⟨0, V2, S1, by omega, rfl, HQ2.out, HOK.out, by rw [HQ.out]; exact HT0.out, HOB.out, HX2.out, HB2.out⟩
  case round =>
    obtain ⟨k, V, s, hk, rfl, hP, hO, hT, hU, hX, hb⟩ := hrel
    have HP := Lib.hid hP
    have HO := Lib.hid hO
    have HT := Lib.hid hT
    have HU := Lib.hid hU
    have HX := Lib.hid hX
    have HB := Lib.hid hb
    clear hP hO hT hU hX hb HT0 HOK HOB HX2 HB2 HQ2
    by_cases hlt : k < lr
    · obtain ⟨bb, off, r, hae, _, hbl, hra, c0⟩ := HRS.out.get k hlt (B0.out.trans (HB.out.mono B0.out.size))
      subst hae
      have HR : Hid (wr.rangeAt bb (off + k * 18) [.int .i64 r.vol, .int .i64 r.srv, .int .i64 r.cl, .int .i64 r.nu, .int .i64 r.co, .int .i64 r.a.co, .int .i64 r.a.h1, .int .i64 r.a.h2, .string r.a.b, .int .i64 r.a.i1, .int .i64 r.a.i2, .int .i64 r.a.i3, .int .i64 r.a.i4, .int .i64 r.a.i5, .int .i64 r.a.i6, .int .i64 r.a.i7, .int .i64 r.a.i8, .slice r.a.na r.a.nl r.a.nc]) := Lib.hid hra
      have HYB := Lib.hid ((Box.new wr 58 #[.int .i64 0, .int .i64 0, .int .i64 0, .int .i64 0, .int .i64 0, .int .i64 0, .int .i64 0, .int .i64 0, .string ⟨#[]⟩, .int .i64 0, .int .i64 0, .int .i64 0, .int .i64 0, .int .i64 0, .int .i64 0, .int .i64 0, .int .i64 0, .slice none 0 0]).setRow #[.int .i64 r.vol, .int .i64 r.srv, .int .i64 r.cl, .int .i64 r.nu, .int .i64 r.co, .int .i64 r.a.co, .int .i64 r.a.h1, .int .i64 r.a.h2, .string r.a.b, .int .i64 r.a.i1, .int .i64 r.a.i2, .int .i64 r.a.i3, .int .i64 r.a.i4, .int .i64 r.a.i5, .int .i64 r.a.i6, .int .i64 r.a.i7, .int .i64 r.a.i8, .slice r.a.na r.a.nl r.a.nc])
      have HB3 := Lib.hid (Below.setRow ((Below.refl wr.heap.size wr).alloc (Nat.le_refl _) (.cells #[.int .i64 0, .int .i64 0, .int .i64 0, .int .i64 0, .int .i64 0, .int .i64 0, .int .i64 0, .int .i64 0, .string ⟨#[]⟩, .int .i64 0, .int .i64 0, .int .i64 0, .int .i64 0, .int .i64 0, .int .i64 0, .int .i64 0, .int .i64 0, .slice none 0 0] 58)) (Nat.le_refl _) #[.int .i64 r.vol, .int .i64 r.srv, .int .i64 r.cl, .int .i64 r.nu, .int .i64 r.co, .int .i64 r.a.co, .int .i64 r.a.h1, .int .i64 r.a.h2, .string r.a.b, .int .i64 r.a.i1, .int .i64 r.a.i2, .int .i64 r.a.i3, .int .i64 r.a.i4, .int .i64 r.a.i5, .int .i64 r.a.i6, .int .i64 r.a.i7, .int .i64 r.a.i8, .slice r.a.na r.a.nl r.a.nc])
      clear hra
      go_wp2_with (first | (refine wpList_load_mid rfl 58 (.tmp 63) rfl bb (off + k * 18) rfl _ _ HR.out Try.underlying58 rfl (by kernel_rfl) ?_) | (refine wpList_store_box rfl 58 (.tmp 10) (.tmp 64) rfl rfl _ 0 rfl [.int .i64 r.vol, .int .i64 r.srv, .int .i64 r.cl, .int .i64 r.nu, .int .i64 r.co, .int .i64 r.a.co, .int .i64 r.a.h1, .int .i64 r.a.h2, .string r.a.b, .int .i64 r.a.i1, .int .i64 r.a.i2, .int .i64 r.a.i3, .int .i64 r.a.i4, .int .i64 r.a.i5, .int .i64 r.a.i6, .int .i64 r.a.i7, .int .i64 r.a.i8, .slice r.a.na r.a.nl r.a.nc] rfl (Box.new wr 58 #[.int .i64 0, .int .i64 0, .int .i64 0, .int .i64 0, .int .i64 0, .int .i64 0, .int .i64 0, .int .i64 0, .string ⟨#[]⟩, .int .i64 0, .int .i64 0, .int .i64 0, .int .i64 0, .int .i64 0, .int .i64 0, .int .i64 0, .int .i64 0, .slice none 0 0]) #[.int .i64 r.vol, .int .i64 r.srv, .int .i64 r.cl, .int .i64 r.nu, .int .i64 r.co, .int .i64 r.a.co, .int .i64 r.a.h1, .int .i64 r.a.h2, .string r.a.b, .int .i64 r.a.i1, .int .i64 r.a.i2, .int .i64 r.a.i3, .int .i64 r.a.i4, .int .i64 r.a.i5, .int .i64 r.a.i6, .int .i64 r.a.i7, .int .i64 r.a.i8, .slice r.a.na r.a.nl r.a.nc] rfl (by kernel_rfl) rfl rfl ?_) | (refine wpList_load_box rfl 58 (.tmp 10) rfl _ 0 rfl HYB.out [.int .i64 r.vol, .int .i64 r.srv, .int .i64 r.cl, .int .i64 r.nu, .int .i64 r.co, .int .i64 r.a.co, .int .i64 r.a.h1, .int .i64 r.a.h2, .string r.a.b, .int .i64 r.a.i1, .int .i64 r.a.i2, .int .i64 r.a.i3, .int .i64 r.a.i4, .int .i64 r.a.i5, .int .i64 r.a.i6, .int .i64 r.a.i7, .int .i64 r.a.i8, .slice r.a.na r.a.nl r.a.nc] rfl Try.underlying58 rfl (by kernel_rfl) ?_))
      generalize (wr.alloc (.cells #[.int .i64 0, .int .i64 0, .int .i64 0, .int .i64 0, .int .i64 0, .int .i64 0, .int .i64 0, .int .i64 0, .string ⟨#[]⟩, .int .i64 0, .int .i64 0, .int .i64 0, .int .i64 0, .int .i64 0, .int .i64 0, .int .i64 0, .int .i64 0, .slice none 0 0] 58)).setRow wr.heap.size #[.int .i64 r.vol, .int .i64 r.srv, .int .i64 r.cl, .int .i64 r.nu, .int .i64 r.co, .int .i64 r.a.co, .int .i64 r.a.h1, .int .i64 r.a.h2, .string r.a.b, .int .i64 r.a.i1, .int .i64 r.a.i2, .int .i64 r.a.i3, .int .i64 r.a.i4, .int .i64 r.a.i5, .int .i64 r.a.i6, .int .i64 r.a.i7, .int .i64 r.a.i8, .slice r.a.na r.a.nl r.a.nc] = w3 at HYB HB3 ⊢
      have HP3 := Lib.hid (HP.out.below HB3.out (Nat.le_refl _))
      have HX3 := Lib.hid (HX.out.below HB3.out HX.out.lt)
      have HBB3 := Lib.hid (HB.out.trans (HB3.out.mono HB.out.size))
      clear HP HX HB HYB HB3 HR c0
      refine (reply_any r).mono ?_
      rintro e w4 ⟨rfl, b4⟩
      have HP4 := Lib.hid (HP3.out.below b4 (Nat.le_refl _))
      have HX4 := Lib.hid (HX3.out.below b4 HX3.out.lt)
      have HBB4 := Lib.hid (HBB3.out.trans (b4.mono HBB3.out.size))
      clear b4 HP3 HX3 HBB3
      go_wp2_with fail
      refine (take_any r HP4.out HO.out HBB4.out.size (HU.out.le HO.out.fit)).mono ?_
      rintro e w5 ⟨rfl, V5, hP5, g5⟩
      have HP5 := Lib.hid hP5
      have HX5 := Lib.hid (HX4.out.touch g5.touch (fun ho => by have := HP4.out.of_ge _ ho; omega))
      have HBB5 := Lib.hid (g5.below HBB4.out (Nat.le_refl _) HP4.out.of_ge)
      clear hP5 g5 HP4 HX4 HBB4
      go_wp2_with fail
      go_roundw
      case rel => exact ⟨k + 1, _, _, by omega, by go_num, HP5.out, HO.out.take r, HT.out.take HO.out r, HU.out.take r, HX5.out, HBB5.out⟩
      case measure => simp [intOf]; omega
    · obtain ⟨bb, off, hxe, hbb, d0⟩ := (HI.out.below (B0.out.trans (HB.out.mono B0.out.size))).at_ vol (m : Int) HM.out
      obtain rfl := Option.some.inj hxe
      have y1 : wr.cell? ⟨W.heap.size, 1, none⟩ = some (.slice (some ⟨bb, off, none⟩) zs.length cap) := HX.out.cell 1
      have y2 : wr.cell? ⟨W.heap.size, 2, none⟩ = some (.int .i64 (P : Nat)) := HX.out.cell 2
      have hxl2 := HX.out.lt
      have hbb2 : bb < wr.heap.size := hbb
      have hvz : (vol : Int) < (zs.length : Int) := by omega
      clear hxe
      go_wp2_with fail
      go_quiet (fail)
      go_wp2_with fail
      have HPn := Lib.hid (HP.out.drewN nq)
      have HBn := Lib.hid (Below.drewN HB.out nq)
      generalize wr.drewN nq = w3 at HPn HBn ⊢
      clear HP HB HX y1 y2 d0
      go_loopw [79] (fun i wv => ∃ (k : Nat) (V : Vs) (s : St), k ≤ q ∧ i = .int .i64 k ∧ Pt wv W0.heap.size n V s ∧ Okay s ∧ Within s (q - k) ∧ OutB s ∧ Below W0.heap.size W0 wv) (fun i _ => q - (intOf i).toNat)
      case atStart => exact ⟨0, V, s, by omega, rfl, HPn.out, HO.out, HT.out, HU.out, HBn.out⟩
      case round =>
        rename World => wv
        obtain ⟨k2, V3, s3, hk2, rfl, hP3, hO3, hT3, hU3, hb3⟩ := hrel
        have HP3 := Lib.hid hP3
        have HO3 := Lib.hid hO3
        have HT3 := Lib.hid hT3
        have HU3 := Lib.hid hU3
        have HB3 := Lib.hid hb3
        clear hP3 hO3 hT3 hU3 hb3 HPn HBn HO HT HU
        by_cases hlt2 : k2 < q
        · go_wp2_with fail
          refine (tick_any HP3.out HO3.out HB3.out.size (HU3.out.le HO3.out.fit)).mono ?_
          rintro e w5 ⟨rfl, V5, hP5, g5⟩
          have HP5 := Lib.hid hP5
          have HBB5 := Lib.hid (g5.below HB3.out (Nat.le_refl _) HP3.out.of_ge)
          have HW5 := Lib.hid (Within.tick (k := q - (k2 + 1)) HO3.out (by rw [show q - (k2 + 1) + 1 = q - k2 by omega]; exact HT3.out))
          clear hP5 g5 HP3 HB3
          go_wp2_with fail
          go_roundw
          case rel => exact ⟨k2 + 1, _, _, by omega, by go_num, HP5.out, HO3.out.tick, HW5.out, HU3.out.tick, HBB5.out⟩
          case measure => simp [intOf]; omega
        · obtain rfl : k2 = q := by omega
          obtain ⟨hbz, r, hdn, hr1⟩ := Within.fin HO3.out (by have := HT3.out; rwa [Nat.sub_self] at this)
          have HBZ := Lib.hid hbz
          have HDN := Lib.hid hdn
          have HR1 := Lib.hid hr1
          clear hbz hdn hr1
          go_wp2_with fail
          refine (done_yes r HP3.out HDN.out).mono ?_
          rintro e w5 ⟨rfl, hP5, g5⟩
          have HP5 := Lib.hid (hP5.alloc (.cells (sc r) 81))
          have HB5 := Lib.hid ((g5.below HB3.out (Nat.le_refl _) HP3.out.of_ge).alloc (g5.below HB3.out (Nat.le_refl _) HP3.out.of_ge).size (.cells (sc r) 81))
          have HR5 := Lib.hid (Box.new w5 81 (sc r))
          clear hP5 g5 HP3 HB3
          go_wp2_with fail
          refine (done_no HP5.out rfl).mono ?_
          rintro e w6 ⟨rfl, b6⟩
          have HP6 := Lib.hid ((HP5.out.below b6 (Nat.le_refl _)).alloc (.cells (sc zeroRs) 81))
          have HR6 := Lib.hid ((HR5.out.below b6 (by rw [World.size_alloc]; omega)).alloc (.cells (sc zeroRs) 81))
          have hb6 := HB5.out.trans (b6.mono HB5.out.size)
          have HB6 := Lib.hid (hb6.alloc hb6.size (.cells (sc zeroRs) 81))
          clear b6 hb6 HP5 HR5 HB5
          unfold zeroRs zeroAn at *
          go_wp2_with fail
          refine (alive_any _).mono ?_
          rintro e w7 ⟨rfl, b7⟩
          have HP7 := Lib.hid (HP6.out.below b7 (Nat.le_refl _))
          have hR7 := HR6.out.below b7 HR6.out.lt
          have hb7 := HB6.out.trans (b7.mono HB6.out.size)
          have HB7 := Lib.hid hb7
          have r0 : w7.cell? ⟨w5.heap.size, 0, none⟩ = some (.int .i64 r.nu) := hR7.cell 0
          rw [HR1.out] at r0
          have hrl := hR7.lt
          clear b7 hR7 hb7 HP6 HR6 HB6
          go_wp2_with fail
          have C9 := Lib.hid (busy_any HP7.out)
          rw [show (doneS s3).busy = false from HBZ.out] at C9
          refine C9.out.mono ?_
          rintro e w8 ⟨rfl, rfl⟩
          go_wp2_with fail
          go_ret
          exact ⟨rfl, B0.out.trans (HB7.out.mono B0.out.size)⟩
theorem ends_core (W : World) (cl pa vol : Int) (a ar : Option Addr) (len cap lr cr : Nat) (zs : List Int) (rs : List Rp) (h : Ints .i64 W a len zs) (hr : RepsAt W ar lr rs) (hlm : lr ≤ maxLen) :
    Calls Try.prog 5 #[.agg #[.int .i64 cl, .slice a len cap, .int .i64 pa], .int .i64 vol, .slice ar lr cr] W fun e w' => e = .returned (.bool true) ∧ Below W.heap.size W w' := by
  cases hy : newB cl zs pa
  · exact ends_new W cl pa vol a ar len cap lr cr zs h hy
  · obtain rfl := h.1
    have hok := newS_ok cl zs pa hy
    have hpa : 0 < pa := hok.fit.pa0
    have hzl : 0 < zs.length := hok.fit.vol
    obtain ⟨P, rfl⟩ := Int.eq_ofNat_of_zero_le (show 0 ≤ pa by omega)
    obtain ⟨b, off, rfl, _⟩ := h.at_ 0 zs[0] (List.getElem?_eq_getElem hzl)
    by_cases hbad : 60 < P ∨ 100 < lr ∨ thereB (newS cl zs P) vol = false
    · exact ends_early W cl P vol _ cap lr cr ar zs h hy hlm hbad
    · have ht : thereB (newS cl zs P) vol = true := by
        cases hh : thereB (newS cl zs P) vol
        · exact absurd (.inr (.inr hh)) hbad
        · rfl
      have ht2 := ht
      simp only [thereB, Bool.and_eq_true, decide_eq_true_eq] at ht2
      have h3 : vol < (zs.length : Int) := ht2.2
      obtain ⟨v, rfl⟩ := Int.eq_ofNat_of_zero_le (show 0 ≤ vol from ht2.1)
      have hv : v < zs.length := by omega
      have hm := hok.fit.many v zs[v] (List.getElem?_eq_getElem hv)
      obtain ⟨m, hm'⟩ := Int.eq_ofNat_of_zero_le (show 0 ≤ zs[v] by omega)
      exact ends_main W cl P v m _ cap lr cr ar rs hr (by omega) zs h hy (by omega) (by rw [List.getElem?_eq_getElem hv, hm'])
set_option maxRecDepth 100000 in
theorem porterEnds_walk {H : Type} {enc : TypeId × Value → H} {base0 base2 : Nat} {p0 p2 : List MemPlace} (W : World) (v0 : Value) (d0 : DataW H) (hv : Value.okWide Try.prog W .any base0 24 v0) (h : DataW.Trod enc Try.prog W 0 (fun _ => true) true 24 v0 d0 p0) (_b : ∀ n ∈ d0.weights Try.prog 24, n ≤ 140737488351232)
    (vol : Int) (_w : (Lit.int .i64 vol).wf = true) (v2 : Value) (d2 : DataW H) (hv2 : Value.okWide Try.prog W .any base2 88 v2) (h2 : DataW.Trod enc Try.prog W 0 (fun _ => true) true 88 v2 d2 p2) (_b2 : ∀ n ∈ d2.weights Try.prog 88, n ≤ 140737488351232) : Calls Try.prog 5 #[v0, .int .i64 vol, v2] W fun e W' => e = .returned (.bool true) ∧ Below W.heap.size W W' := by
  obtain ⟨cl, pa, a, len, cap, zs, rfl, hI⟩ := who_open hv h
  obtain ⟨ar, lr, cr, rs, rfl, hR, h1, h3⟩ := open_reps hv2 h2
  exact ends_core W cl pa vol a ar len cap lr cr zs rs hI hR (Nat.le_trans h1 h3)
end Go.Proofs.Ytlkilkndjfcejaa
