/- chart: Folder, ViewAt; alive. Conditions: the library's variable holds a number. -/
import Derived.Test.YtbkjhogfpcmcbaaDoorKg
import Derived.Test.YtbkjhogfpcmcbaaDoorKj
namespace Go.Proofs.YtbkjhogfpcmcbaaDoor
open Go Go.RowKit Zn
set_option linter.unusedVariables false
set_option linter.unusedSimpArgs false
variable {w w' : World}
theorem folder_no (v : Int) (w : World) (h : v < 1 ∨ 999 < v) : Calls Tryd.prog 29 #[.int .i64 v] w fun e w' => e = .returned (.string ⟨#[]⟩) ∧ Below w.heap.size w w' := by
  go_enter Tryd.func29, Tryd.ntmps29
  by_cases h1 : v < 1
  · go_wp2_with fail
    go_ret
    exact ⟨rfl, Below.refl _ _⟩
  · have h2 : 999 < v := by omega
    go_wp2_with fail
    go_ret
    exact ⟨rfl, Below.refl _ _⟩
theorem folder_yes (v : Int) (t : ByteArray) (w : World) (h1 : 1 ≤ v) (h2 : v ≤ 999) (ht : t.size ≤ 100) (hC : Calls Tryd.prog 39 #[.int .i64 v] w fun e w' => e = .returned (.string t) ∧ Below w.heap.size w w') :
    Calls Tryd.prog 29 #[.int .i64 v] w fun e w' => e = .returned (.string ((⟨#[47, 118, 111, 108, 45]⟩ : ByteArray) ++ t)) ∧ Below w.heap.size w w' := by
  have C := Lib.hid hC
  have hsz : ¬ 9223372036854775807 < 5 + t.size := by omega
  have d1 : decide (v < 1) = false := by rw [decide_eq_false_iff_not]; omega
  have d2 : decide (999 < v) = false := by rw [decide_eq_false_iff_not]; omega
  clear hC h1 h2
  go_enter Tryd.func29, Tryd.ntmps29
  go_wp2_with fail
  refine C.out.mono ?_
  rintro e w1 ⟨rfl, b1⟩
  have HB := Lib.hid b1
  clear b1 C
  go_wp2_with fail
  go_ret
  exact ⟨rfl, HB.out⟩
theorem view_no (v : Int) (w : World) (h : v < 1 ∨ 999 < v) : Calls Tryd.prog 30 #[.int .i64 v] w fun e w' => e = .returned (.string ⟨#[]⟩) ∧ Below w.heap.size w w' := by
  have C := Lib.hid (folder_no v w h)
  clear h
  go_enter Tryd.func30, Tryd.ntmps30
  go_wp2_with fail
  refine C.out.mono ?_
  rintro e w1 ⟨rfl, b1⟩
  have HB := Lib.hid b1
  clear b1 C
  go_wp2_with fail
  go_ret
  exact ⟨rfl, HB.out⟩
theorem view_yes (v : Int) (t : ByteArray) (w : World) (h1 : 1 ≤ v) (h2 : v ≤ 999) (ht : t.size ≤ 100) (hC : Calls Tryd.prog 39 #[.int .i64 v] w fun e w' => e = .returned (.string t) ∧ Below w.heap.size w w') :
    Calls Tryd.prog 30 #[.int .i64 v] w fun e w' => e = .returned (.string (((⟨#[47, 118, 111, 108, 45]⟩ : ByteArray) ++ t) ++ (⟨#[47, 118, 105, 101, 119]⟩ : ByteArray))) ∧ Below w.heap.size w w' := by
  have C := folder_yes v t w h1 h2 ht hC
  have hne : (((⟨#[47, 118, 111, 108, 45]⟩ : ByteArray) ++ t).toList).isEmpty = false := by
    rw [Lib.toList_data, ByteArray.data_append, Array.toList_append]; rfl
  obtain ⟨F, hF⟩ : ∃ F, F = (⟨#[47, 118, 111, 108, 45]⟩ : ByteArray) ++ t := ⟨_, rfl⟩
  have hsz : ¬ 9223372036854775807 < F.size + 5 := by rw [hF, ByteArray.size_append]; show ¬ _ < 5 + t.size + 5; omega
  rw [← hF] at C hne ⊢
  have C := Lib.hid C
  clear hC h1 h2 hF
  go_enter Tryd.func30, Tryd.ntmps30
  go_wp2_with fail
  refine C.out.mono ?_
  rintro e w1 ⟨rfl, b1⟩
  have HB := Lib.hid b1
  clear b1 C
  go_wp2_with fail
  go_ret
  exact ⟨rfl, HB.out⟩
theorem view3 (w : World) : Calls Tryd.prog 30 #[.int .i64 3] w fun e w' => e = .returned (.string ⟨#[47, 118, 111, 108, 45, 51, 47, 118, 105, 101, 119]⟩) ∧ Below w.heap.size w w' :=
  (view_yes 3 ⟨#[51]⟩ w (by omega) (by omega) (by decide) ((Tryd.strconv_Itoa_small 3 (by omega) w).mono fun e w' h => ⟨h.1.trans (by rw [show Lib.decDigits 3 = [51] from by decide +kernel]), h.2 ▸ Below.refl _ _⟩)).mono fun e w' h => ⟨h.1.trans (by congr 2), h.2⟩
def ms2 : List Mt := [⟨⟨#[47]⟩, 1⟩, ⟨⟨#[47, 97]⟩, 2⟩]
def qab : ByteArray := ⟨#[47, 97, 47, 98]⟩
def kids3 : List Nm := [[110, 50, 45, 48, 48, 48, 48, 48, 48, 48, 48, 48, 52], [110, 48, 45, 48, 48, 48, 48, 48, 48, 48, 48, 48, 55], [120]]
theorem ms2_find : findB ms2 qab = true := by decide +kernel
theorem ms2_best : (bestOf ms2 qab).v = 2 := by decide +kernel
theorem ms2_rest : restOf ms2 qab = [[98]] := by decide +kernel
theorem kids3_b : (winL kids3).b = [110, 50, 45, 48, 48, 48, 48, 48, 48, 48, 48, 48, 52] := by decide +kernel
theorem kids3_k : (winL kids3).k = 2 := by decide +kernel
set_option maxHeartbeats 2000000 in
theorem alive_any (w : World) (hm : Mx w) : Calls Tryd.prog 12 #[] w fun e w' => e = .returned (.bool true) ∧ Below w.heap.size w w' := by
  have hb1 : Below w.heap.size w (w.alloc (.cells #[.string ⟨#[47]⟩, .int .i64 1, .string ⟨#[47, 97]⟩, .int .i64 2] 53)) := (Below.refl _ _).alloc (Nat.le_refl _) _
  have bx := Box.new w 53 #[.string ⟨#[47]⟩, .int .i64 1, .string ⟨#[47, 97]⟩, .int .i64 2]
  have hat : MsAt (w.alloc (.cells #[.string ⟨#[47]⟩, .int .i64 1, .string ⟨#[47, 97]⟩, .int .i64 2] 53)) (some ⟨w.heap.size, 0, none⟩) 2 ms2 := by
    refine ⟨rfl, .inr ⟨w.heap.size, 0, rfl, by simp, fun i r hr j u hu => ?_⟩⟩
    rw [show ((w.alloc (.cells #[.string ⟨#[47]⟩, .int .i64 1, .string ⟨#[47, 97]⟩, .int .i64 2] 53))).cell? ⟨w.heap.size, 0 + i * 2 + j, none⟩ = _ from bx.cell _]
    match i, hr with
    | 0, hr =>
      obtain rfl : _ = r := Option.some.inj hr
      match j, hu with
      | 0, hu => exact hu
      | 1, hu => exact hu
    | 1, hr =>
      obtain rfl : _ = r := Option.some.inj hr
      match j, hu with
      | 0, hu => exact hu
      | 1, hu => exact hu
  have C1 := find_yes (some ⟨w.heap.size, 0, none⟩) 2 2 ms2 qab hat (by intro x hx; simp only [ms2, List.mem_cons, List.not_mem_nil, or_false] at hx; rcases hx with rfl | rfl <;> decide) (by decide) (hm.below hb1) (by omega) ms2_find
  unfold FoundAt at C1
  rw [ms2_best, ms2_rest] at C1
  unfold qab at C1
  have C1 := Lib.hid C1
  have C2 := Lib.hid (fun (w1 : World) (h : Mx w1) (g : Nat) (hs : Strs w1 (some ⟨g, 0, none⟩) kids3) => winner_any (some ⟨g, 0, none⟩) 3 kids3 w1 hs (by intro x hx; simp only [kids3, List.mem_cons, List.not_mem_nil, or_false] at hx; rcases hx with rfl | rfl | rfl <;> decide) h (by decide))
  unfold Won at C2
  rw [kids3_b, kids3_k] at C2
  have C3 := Lib.hid view3
  have HM := Lib.hid (hm.below hb1)
  have HB := Lib.hid hb1
  clear hm hat bx hb1
  go_enter Tryd.func12, Tryd.ntmps12
  go_wp2_with fail
  refine C1.out.mono ?_
  rintro e w1 ⟨a1, c1, rfl, hs1, b1⟩
  have HB1 := Lib.hid (HB.out.trans (b1.mono HB.out.size))
  have HM1 := Lib.hid (HM.out.below b1)
  obtain ⟨g1, off1, rfl, hg1, hc1⟩ := hs1.get 0 _ rfl
  have hb2 : Below w1.heap.size w1 (w1.alloc (.cells #[.string ⟨#[110, 50, 45, 48, 48, 48, 48, 48, 48, 48, 48, 48, 52]⟩, .string ⟨#[110, 48, 45, 48, 48, 48, 48, 48, 48, 48, 48, 48, 55]⟩, .string ⟨#[120]⟩] 9)) := (Below.refl _ _).alloc (Nat.le_refl _) _
  have HS2 := Lib.hid (show Strs (w1.alloc (.cells #[.string ⟨#[110, 50, 45, 48, 48, 48, 48, 48, 48, 48, 48, 48, 52]⟩, .string ⟨#[110, 48, 45, 48, 48, 48, 48, 48, 48, 48, 48, 48, 55]⟩, .string ⟨#[120]⟩] 9)) (some ⟨w1.heap.size, 0, none⟩) kids3 from by
    refine .inr ⟨w1.heap.size, 0, rfl, by simp, fun k x hk => ?_⟩
    rw [show (w1.alloc (.cells #[.string ⟨#[110, 50, 45, 48, 48, 48, 48, 48, 48, 48, 48, 48, 52]⟩, .string ⟨#[110, 48, 45, 48, 48, 48, 48, 48, 48, 48, 48, 48, 55]⟩, .string ⟨#[120]⟩] 9)).cell? ⟨w1.heap.size, 0 + k, none⟩ = _ from (Box.new w1 9 #[.string ⟨#[110, 50, 45, 48, 48, 48, 48, 48, 48, 48, 48, 48, 52]⟩, .string ⟨#[110, 48, 45, 48, 48, 48, 48, 48, 48, 48, 48, 48, 55]⟩, .string ⟨#[120]⟩]).cell _]
    match k, hk with
    | 0, hk => obtain rfl : _ = x := Option.some.inj hk; rfl
    | 1, hk => obtain rfl : _ = x := Option.some.inj hk; rfl
    | 2, hk => obtain rfl : _ = x := Option.some.inj hk; rfl)
  have HB2 := Lib.hid (HB1.out.trans (hb2.mono HB1.out.size))
  have HM2 := Lib.hid (HM1.out.below hb2)
  have HC1 := Lib.hid ((hb2.cell (p := ⟨g1, off1 + 0, none⟩) hg1).trans hc1)
  have HG1 := Lib.hid (Nat.lt_of_lt_of_le hg1 hb2.size)
  have C2 := Lib.hid (C2.out _ HM2.out _ HS2.out)
  clear b1 C1 hs1 hb2 hc1 hg1 HS2 HM1
  go_wp2_with fail
  refine C2.out.mono ?_
  rintro e w2 ⟨rfl, b2⟩
  have HB3 := Lib.hid (HB2.out.trans (b2.mono HB2.out.size))
  have c1 : w2.cell? ⟨g1, off1, none⟩ = some (.string ⟨#[98]⟩) := (b2.cell (p := ⟨g1, off1, none⟩) HG1.out).trans HC1.out
  have g1l : g1 < w2.heap.size := Nat.lt_of_lt_of_le HG1.out b2.size
  clear b2 C2 HC1 HG1
  go_wp2_with fail
  refine (C3.out w2).mono ?_
  rintro e w3 ⟨rfl, b3⟩
  have HB4 := Lib.hid (HB3.out.trans (b3.mono HB3.out.size))
  clear b3 C3
  go_wp2_with fail
  go_ret
  exact ⟨by simp, HB4.out⟩
end Go.Proofs.YtbkjhogfpcmcbaaDoor
