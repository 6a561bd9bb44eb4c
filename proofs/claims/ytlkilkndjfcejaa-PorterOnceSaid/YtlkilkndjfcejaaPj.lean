/- porter: alive. Conditions: none. -/
import Derived.Test.YtlkilkndjfcejaaPi
namespace Go.Proofs.Ytlkilkndjfcejaa
open Go Go.RowKit
set_option linter.unusedVariables false
set_option linter.unusedSimpArgs false
variable {w w' : World} {base n : Nat} {V V' : Vs} {s s' : St}

/-- requests that were handed out stay. -/
theorem row_goes {u : Value} {k : Nat} {xs : List Value} (ho : w.ownsRow base 54 20 u k xs) (h : Pt w base n V s) (hV : ∀ b, u.ownBlock = some b → V.o.ownBlock ≠ some b) (g : Goes w w' n V V') : w'.ownsRow base 54 20 u k xs ∧ ∀ b, u.ownBlock = some b → ¬ Of n V' b := by
  have hno : ∀ b, u.ownBlock = some b → ¬ Of n V b := by
    rintro b hb (rfl | hv | hv | hv | hv)
    · exact own_box_ne ho h.box (by decide) hb
    · exact own_ne ho h.rm (by decide) b hb hv
    · exact own_ne ho h.rg (by decide) b hb hv
    · exact hV b hb hv
    · exact own_ne ho h.rd (by decide) b hb hv
  refine ⟨own_stays ho fun b hb => g.touch.block b (own_lt ho b hb) (hno b hb), fun b hb ho' => ?_⟩
  rcases g.lies b ho' with h1 | h1
  · exact hno b hb h1
  · have := own_lt ho b hb; omega
def al0 : Cl := ⟨0, 0, 10, 1, 1, 0, 0, ⟨#[]⟩, ⟨#[]⟩, 0, 0, 0, ⟨#[]⟩, false, 0, 0, 0, ⟨#[]⟩⟩
def al1 : Cl := ⟨7, 1, 10, 1, 1, 0, 0, ⟨#[]⟩, ⟨#[]⟩, 0, 0, 0, ⟨#[]⟩, false, 0, 0, 0, ⟨#[]⟩⟩
def alR : Rp := ⟨0, 1, 7, 1, 0, zeroAn⟩
def al3 : St := tickS (tickS (startS (newS 7 [3] 2) 0 al0))
theorem al3_out : al3.out = [⟨0, 0, al1⟩, ⟨0, 1, al1⟩] := by kernel_rfl
theorem al_done : (takeS (outS al3) alR).done = [⟨1, 0, zeroAn⟩] := by kernel_rfl
theorem al_start : startB (newS 7 [3] 2) 0 al0 = true := by kernel_rfl
theorem ptr_ne (n : Nat) (w : World) : (binOp .eql 26 (.pointer (some ⟨n, 0, none⟩)) (.pointer none)).run Try.prog w = .ok (.bool false) w := by kernel_rfl
set_option maxRecDepth 100000 in
set_option maxHeartbeats 4000000 in
theorem alive_any (W : World) : Calls Try.prog 8 #[] W fun e w' => e = .returned (.bool true) ∧ Below W.heap.size W w' := by
  obtain ⟨W1, hW1⟩ : ∃ W1, W1 = W.alloc (.cells #[.int .i64 3] 3) := ⟨_, rfl⟩
  have hI : Ints .i64 W1 (some ⟨W.heap.size, 0, none⟩) 1 [3] := by
    rw [hW1]
    refine ⟨rfl, by decide, by decide, .inr ⟨_, _, rfl, fun i hi => ?_⟩⟩
    obtain rfl : i = 0 := by omega
    exact (Box.new W 3 #[.int .i64 3]).cell 0
  have C0 := Lib.hid (new_yes W1 7 2 ⟨W.heap.size, 0, none⟩ 1 1 [3] hI (by kernel_rfl))
  have O0 := newS_ok 7 [3] 2 (by kernel_rfl)
  have O1 := O0.start 0 al0 (by show (0 : Int) < 100000; omega)
  have O2 := O1.tick
  have O3 := O2.tick
  have O5 := O3.out.take alR
  obtain ⟨S0, hS0⟩ : ∃ S0, S0 = newS 7 [3] 2 := ⟨_, rfl⟩
  obtain ⟨S1, hS1⟩ : ∃ S1, S1 = startS (newS 7 [3] 2) 0 al0 := ⟨_, rfl⟩
  obtain ⟨S2, hS2⟩ : ∃ S2, S2 = tickS S1 := ⟨_, rfl⟩
  obtain ⟨S3, hS3⟩ : ∃ S3, S3 = tickS S2 := ⟨_, rfl⟩
  have hS3a : S3 = al3 := by rw [hS3, hS2, hS1]; rfl
  have E3 := Lib.hid (show S3.out = [⟨0, 0, al1⟩, ⟨0, 1, al1⟩] by rw [hS3a]; exact al3_out)
  have E5 := Lib.hid (show (takeS (outS S3) alR).done = [⟨1, 0, zeroAn⟩] by rw [hS3a]; exact al_done)
  have L0 : S0.out.length ≤ 500 := by rw [hS0]; decide
  have L1 : S1.out.length ≤ 500 := by rw [hS1, show (startS (newS 7 [3] 2) 0 al0).out = [⟨0, 0, al1⟩] from by kernel_rfl]; decide
  have L2 : S2.out.length ≤ 500 := by rw [hS2, hS1, show (tickS (startS (newS 7 [3] 2) 0 al0)).out = [⟨0, 0, al1⟩] from by kernel_rfl]; decide
  have P1 := fun (w : World) (V : Vs) (n : Nat) (h : Pt w W1.heap.size n V S0) (hb : W1.heap.size ≤ w.heap.size) => start_any 0 al0 h (by rw [hS0]; exact O0) hb L0 (by rw [hS0]; show (0 : Int) < 100000; omega)
  have P2 := fun (w : World) (V : Vs) (n : Nat) (h : Pt w W1.heap.size n V S1) (hb : W1.heap.size ≤ w.heap.size) => tick_any h (by rw [hS1]; exact O1) hb L1
  have P3 := fun (w : World) (V : Vs) (n : Nat) (h : Pt w W1.heap.size n V S2) (hb : W1.heap.size ≤ w.heap.size) => tick_any h (by rw [hS2, hS1]; exact O2) hb L2
  have P5 := fun (w : World) (V : Vs) (n : Nat) (h : Pt w W1.heap.size n V (outS S3)) (hb : W1.heap.size ≤ w.heap.size) => take_any alR h (by rw [hS3, hS2, hS1]; exact O3.out) hb (by show ([] : List Rq).length ≤ 500; simp)
  rw [hS0, al_start, ← hS0, show startS S0 0 al0 = S1 by rw [hS0, hS1]] at P1
  rw [← hS2] at P2
  rw [← hS3] at P3
  unfold NewPost at C0
  rw [← hS0] at C0
  have HP1 := Lib.hid P1
  have HP2 := Lib.hid P2
  have HP3 := Lib.hid P3
  have HP5 := Lib.hid P5
  have HW1 := Lib.hid hW1
  clear hI O0 O1 O2 O3 O5 hS0 hS1 hS2 hS3 hS3a L0 L1 L2 P1 P2 P3 P5
  go_enter Try.func8, Try.ntmps8
  go_wp2_with fail
  rw [← hW1]
  clear hW1
  refine C0.out.mono ?_
  rintro e w1 ⟨n, V, rfl, hP, b1⟩
  have HB := Lib.hid b1
  have HP := Lib.hid hP
  have hne := ptr_ne n
  clear C0 hP b1
  go_wp2_with fail
  refine (HP1.out w1 V n HP.out HB.out.size).mono ?_
  rintro e w2 ⟨rfl, V2, hP2, g2⟩
  have HB2 := Lib.hid (g2.below HB.out (Nat.le_refl _) HP.out.of_ge)
  have HQ2 := Lib.hid hP2
  clear hP2 g2 HB HP HP1
  go_wp2_with fail
  refine (HP2.out w2 V2 n HQ2.out HB2.out.size).mono ?_
  rintro e w3 ⟨rfl, V3, hP3, g3⟩
  have HB3 := Lib.hid (g3.below HB2.out (Nat.le_refl _) HQ2.out.of_ge)
  have HQ3 := Lib.hid hP3
  clear hP3 g3 HB2 HQ2 HP2
  go_wp2_with fail
  refine (HP3.out w3 V3 n HQ3.out HB3.out.size).mono ?_
  rintro e w4 ⟨rfl, V4, hP4, g4⟩
  have HB4 := Lib.hid (g4.below HB3.out (Nat.le_refl _) HQ3.out.of_ge)
  have HQ4 := Lib.hid hP4
  clear hP4 g4 HB3 HQ3 HP3
  go_wp2_with fail
  refine (out_any HQ4.out).mono ?_
  rintro e w5 ⟨rfl, hP5, g5, hk5⟩
  have hro := HQ4.out.ro
  rw [E3.out] at hro
  have hro5 : w5.ownsRow W1.heap.size 54 20 V4.o 2 ([⟨0, 0, al1⟩, ⟨0, 1, al1⟩].flatMap ql) := own_stays hro fun k hk => hk5 k (by rintro rfl; exact own_box_ne hro HQ4.out.box (by decide) hk)
  obtain ⟨ao, co, hvo, _⟩ := own_shape hro
  have HV := Lib.hid hvo
  have HB5 := Lib.hid (g5.below HB4.out (Nat.le_refl _) HQ4.out.of_ge)
  have HQ5 := Lib.hid hP5
  have HR5 := Lib.hid hro5
  rw [hvo]
  clear hP5 g5 hk5 HB4 HQ4 hro hro5 hvo
  go_wp2_with fail
  refine (HP5.out w5 _ n HQ5.out HB5.out.size).mono ?_
  rintro e w6 ⟨rfl, V6, hP6, g6⟩
  have HB6 := Lib.hid (g6.below HB5.out (Nat.le_refl _) HQ5.out.of_ge)
  have hr6 := row_goes HR5.out HQ5.out (fun _ _ h => by cases h) g6
  have HQ6 := Lib.hid hP6
  have HR6 := Lib.hid hr6
  clear hP6 g6 hr6 HB5 HQ5 HR5 HP5
  go_wp2_with fail
  refine (done_yes _ HQ6.out E5.out).mono ?_
  rintro e w7 ⟨rfl, hP7, g7⟩
  have HB7 := Lib.hid (g7.below HB6.out (Nat.le_refl _) HQ6.out.of_ge)
  have hR7 := own_stays HR6.out.1 (w' := w7) fun b hb => g7.touch.block b (own_lt HR6.out.1 b hb) (HR6.out.2 b hb)
  rw [HV.out] at hR7
  have HR7 := Lib.hid hR7
  obtain ⟨g, cp, he, _, hgl, _, _, hc0⟩ := own_atN ql_len hR7 rfl 0 ⟨0, 0, al1⟩ rfl
  obtain ⟨g', cp', he', _, hgl', _, _, hc1⟩ := own_atN ql_len hR7 rfl 1 ⟨0, 1, al1⟩ rfl
  obtain ⟨rfl, rfl⟩ : ao = some ⟨g, 0, none⟩ ∧ co = cp := by simpa using he
  obtain ⟨rfl, rfl⟩ : g = g' ∧ co = cp' := by simpa using he'
  have d01 : w7.cell? ⟨g, 1, none⟩ = some (.int .i64 0) := by simpa using hc0 1 _ rfl
  have d11 : w7.cell? ⟨g, 21, none⟩ = some (.int .i64 1) := by simpa using hc1 1 _ rfl
  have d13 : w7.cell? ⟨g, 23, none⟩ = some (.int .i64 1) := by simpa [al1] using hc1 3 _ rfl
  clear hP7 g7 HB6 HQ6 HR6 hR7 he he' hc0 hc1 E3 E5
  unfold zeroAn
  go_wp2_with fail
  go_ret
  have hW : Below W.heap.size W W1 := by rw [HW1.out]; exact (Below.refl _ _).alloc (Nat.le_refl _) _
  have hb := hW.trans (HB7.out.mono hW.size)
  exact ⟨rfl, hb.alloc hb.size _⟩
end Go.Proofs.Ytlkilkndjfcejaa
