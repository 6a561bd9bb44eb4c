/- zname: Cut of a numbered name; alive. Conditions: the text has at most 2000000 bytes; the library's variable holds a number. -/
import Derived.Test.YtegpoiepeaofgaaDoorZe
namespace Go.Proofs.YtegpoiepeaofgaaDoor
open Go Go.RowKit Zn
set_option linter.unusedVariables false
set_option linter.unusedSimpArgs false
variable {w w' : World}

theorem val_bound (l : Nm) (h : ∀ c ∈ l, c.toNat ≤ 57) : val l < 10 ^ l.length := by
  have H : ∀ (r : Nm), (∀ c ∈ r, c.toNat ≤ 57) → val r.reverse < 10 ^ r.length := by
    intro r
    induction r with
    | nil => intro _; simp [val]
    | cons c r ih =>
      intro h
      rw [List.reverse_cons, val_snoc, List.length_cons, Nat.pow_succ]
      have h1 := ih (fun d hd => h d (by simp [hd]))
      have h2 := h c (by simp)
      omega
  have := H l.reverse (fun c hc => h c (by simpa using hc))
  simpa using this
theorem ret_three {fn : Func} {R : Ending → World → Prop} {act : Act} {w : World} {x y z : Value} {t u v : Nat} (h : fn.results = #[.tmp t, .tmp u, .tmp v]) (hd : act.defers = []) (ht : act.tmps.getD t undef = x) (hu : act.tmps.getD u undef = y) (hv : act.tmps.getD v undef = z)
    (hR : R (.returned (.tuple #[x, y, z])) w) : bodyPost Tryd.prog fn R .ret act w := by
  refine bodyPost_ret (v := .tuple #[x, y, z]) ?_ hd hR
  rw [Array.getD_eq_getD_getElem?] at ht hu hv
  simp [results, h, ht, hu, hv, go_sem]
theorem cut_empty (w : World) : Calls Tryd.prog 22 #[.string ⟨#[]⟩] w fun e w' => e = .returned (.tuple #[.string ⟨#[]⟩, .int .i64 0, .bool false]) ∧ Below w.heap.size w w' := by
  go_enter Tryd.func22, Tryd.ntmps22
  go_wp2_with fail
  exact ret_three rfl rfl rfl rfl rfl ⟨rfl, Below.refl _ _⟩
theorem cut_num (p : ByteArray) (l : Nm) (m : Nat) (w : World) (hm : Mx w) (hp : p.data.toList = l ++ tenR 10 m) (hl : l.length ≤ 2000000) (h0 : ¬ l = [47]) (h1 : validZ l = true) (h2 : validZ p.data.toList = true) (h3 : m ≤ 9999999999) :
    Calls Tryd.prog 22 #[.string p] w fun e w' => e = .returned (.tuple #[.string ⟨l.toArray⟩, .int .i64 m, .bool true]) ∧ Below w.heap.size w w' := by
  obtain ⟨N, hN⟩ : ∃ N, N = l.length := ⟨_, rfl⟩
  have hps : p.size = N + 10 := by rw [Lib.size_eq, hp, List.length_append, tenR_len, hN]
  have HM := Lib.hid hm
  have HP := Lib.hid hp
  have HN := Lib.hid hN
  have hsz : (p.size : Int) = (N : Int) + 10 := by omega
  have hN0 : decide ((N : Int) < 0) = false := by rw [decide_eq_false_iff_not]; omega
  obtain ⟨T, hT⟩ : ∃ T, T = tenR 10 m := ⟨_, rfl⟩
  have hTL : T.length = 10 := by rw [hT, tenR_len]
  have HQ := Lib.hid (show (p.extract N (N + 10)).data.toList = T by
    rw [Lib.extract_data, hp, ← hT, hN, List.drop_left, Nat.add_sub_cancel_left, ← hTL, List.take_length])
  have HQ0 := Lib.hid (show (p.extract 0 N).data.toList = l by
    rw [Lib.extract_data, hp, List.drop_zero, Nat.sub_zero, hN, List.take_left])
  have HDG := Lib.hid (show ∀ c ∈ T, 48 ≤ c.toNat ∧ c.toNat ≤ 57 by rw [hT]; exact ten_digits 10 m)
  have HV := Lib.hid (show val T = m by rw [hT, val_ten, Nat.mod_eq_of_lt (by omega)])
  have HTL := Lib.hid hTL
  have h00 : ((p.extract 0 N).toList == [47]) = false := by rw [Lib.toList_data, HQ0.out]; simpa using h0
  have CL := fun w1 (h : Mx w1) => valid_any (p.extract 0 N) w1 (by rw [Lib.size_eq, HQ0.out]; omega) h
  rw [HQ0.out, h1] at CL
  have CP := fun w1 (h : Mx w1) => valid_any p w1 (by omega) h
  rw [h2] at CP
  have CL := Lib.hid CL
  have CP := Lib.hid CP
  have hNl : N ≤ 2000000 := by omega
  clear hm hp hN hT hTL h0 h1 h2 hl
  go_enter Tryd.func22, Tryd.ntmps22
  go_wp2_with fail
  obtain ⟨q, hq⟩ : ∃ q, q = p.extract N (N + 10) := ⟨_, rfl⟩
  rw [← hq] at HQ ⊢
  have hqs : q.size = 10 := by rw [Lib.size_eq, HQ.out, HTL.out]
  have HQS := Lib.hid hqs
  clear hq hqs
  go_loopw [6, 8] (fun n _ wr => ∃ pos, pos ≤ 10 ∧ wr = w.iter q pos ∧ n = .int .i64 ((val (T.take pos) : Nat) : Int)) (fun _ _ wr => 10 - wr.iterPos w.heap.size)
  case atStart => exact ⟨0, by omega, rfl, rfl⟩
  case round =>
    obtain ⟨pos, hpos, rfl, rfl⟩ := hrel
    by_cases hlt : pos < 10
    · have hlq : pos < q.size := by rw [HQS.out]; exact hlt
      have hb := at_byte q pos hlq
      rw [HQ.out] at hb
      have hdg := HDG.out _ (List.mem_of_getElem? hb)
      have hnx : ∀ ty, (Instr.next (.pointer (some ⟨w.heap.size, 0, none⟩)) true ty).run Tryd.prog (w.iter q pos) = _ := fun ty => run_next_ascii w q pos ty hlq (by omega)
      obtain ⟨c, hc⟩ : ∃ c, c = q[pos]'hlq := ⟨_, rfl⟩
      rw [← hc] at hnx hb hdg
      have HN2 := Lib.hid (show val (T.take (pos + 1)) = 10 * val (T.take pos) + (c.toNat - 48) by rw [List.take_add_one, hb]; exact val_snoc _ _)
      have hvb : val (T.take pos) ≤ 9999999999 := by
        have h5 := val_bound (T.take pos) (fun d hd => (HDG.out d (List.mem_of_mem_take hd)).2)
        have h6 : (T.take pos).length ≤ 10 := by rw [List.length_take]; omega
        have h7 : 10 ^ (T.take pos).length ≤ 10 ^ 10 := Nat.pow_le_pow_right (by omega) h6
        omega
      obtain ⟨v, hv⟩ : ∃ v, v = val (T.take pos) := ⟨_, rfl⟩
      rw [← hv] at HN2 hvb ⊢
      have d1 : ¬ (c.toNat : Int) < 48 := by omega
      have d2 : ¬ (57 : Int) < (c.toNat : Int) := by omega
      have d3 : (48 : Int) ≤ (c.toNat : Int) := by omega
      have d4 : (c.toNat : Int) ≤ 57 := by omega
      have d1b : decide ((c.toNat : Int) < 48) = false := by rw [decide_eq_false_iff_not]; omega
      have d2b : decide ((57 : Int) < (c.toNat : Int)) = false := by rw [decide_eq_false_iff_not]; omega
      clear hc hb hv d1 d2
      go_wp2_with fail
      go_roundw
      case rel => exact ⟨pos + 1, by omega, rfl, by rw [HN2.out]; congr 1; omega⟩
      case measure => simp; omega
    · obtain rfl : pos = 10 := by omega
      have hlq : ¬ 10 < q.size := by rw [HQS.out]; omega
      have hnx : ∀ ty, (Instr.next (.pointer (some ⟨w.heap.size, 0, none⟩)) true ty).run Tryd.prog (w.iter q 10) = _ := fun ty => run_next_end w q 10 ty hlq
      have HE := Lib.hid (show val (T.take 10) = m by rw [List.take_of_length_le (by rw [HTL.out]; exact Nat.le_refl _), HV.out])
      obtain ⟨v, hv⟩ : ∃ v, v = val (T.take 10) := ⟨_, rfl⟩
      rw [← hv] at HE ⊢
      have HB0 := Lib.hid (show Below w.heap.size w (w.iter q 10) from (Below.refl _ _).alloc (Nat.le_refl _) _)
      clear hv hlq
      go_wp2_with fail
      refine (CL.out _ (HM.out.below HB0.out)).mono ?_
      rintro e w1 ⟨rfl, b1⟩
      have B1 := Lib.hid (HB0.out.trans (b1.mono HB0.out.size))
      clear b1
      go_wp2_with fail
      refine (CP.out _ (HM.out.below B1.out)).mono ?_
      rintro e w2 ⟨rfl, b2⟩
      have B2 := Lib.hid (B1.out.trans (b2.mono B1.out.size))
      clear b2
      go_wp2_with fail
      exact ret_three rfl rfl (x := .string (p.extract 0 N)) (y := .int .i64 v) (z := .bool true) rfl rfl rfl ⟨by rw [HE.out, ← HQ0.out], B2.out⟩
set_option maxHeartbeats 1000000 in
theorem alive_any (w : World) (hm : Mx w) : Calls Tryd.prog 10 #[] w fun e w' => e = .returned (.bool true) ∧ Below w.heap.size w w' := by
  have C1 := Lib.hid (parent_any ⟨#[47, 97, 47, 98]⟩ w (by decide) hm)
  rw [show parentZ (⟨#[47, 97, 47, 98]⟩ : ByteArray).data.toList = [47, 97] by decide +kernel, show isParent (⟨#[47, 97, 47, 98]⟩ : ByteArray).data.toList = true by decide +kernel] at C1
  have C2 := Lib.hid (fun w1 (h : Mx w1) => number_any ⟨#[47, 97, 47, 110, 45]⟩ 7 w1 (by decide) h)
  unfold Numbered at C2
  rw [show numZ (⟨#[47, 97, 47, 110, 45]⟩ : ByteArray).data.toList 7 = [47, 97, 47, 110, 45, 48, 48, 48, 48, 48, 48, 48, 48, 48, 55] by decide +kernel, show numOk (⟨#[47, 97, 47, 110, 45]⟩ : ByteArray).data.toList 7 = true by decide +kernel] at C2
  have C3 := Lib.hid (fun w1 (h : Mx w1) => valid_any ⟨#[47, 97, 47, 98]⟩ w1 (by decide) h)
  rw [show validZ (⟨#[47, 97, 47, 98]⟩ : ByteArray).data.toList = true by decide +kernel] at C3
  have C4 := Lib.hid (fun w1 (h : Mx w1) => valid_any ⟨#[47, 97, 47]⟩ w1 (by decide) h)
  rw [show validZ (⟨#[47, 97, 47]⟩ : ByteArray).data.toList = false by decide +kernel] at C4
  have HM := Lib.hid hm
  clear hm
  go_enter Tryd.func10, Tryd.ntmps10
  go_wp2_with fail
  refine C1.out.mono ?_
  rintro e w1 ⟨rfl, b1⟩
  have B1 := Lib.hid b1
  clear b1
  go_wp2_with fail
  refine (C2.out _ (HM.out.below B1.out)).mono ?_
  rintro e w2 ⟨rfl, b2⟩
  have B2 := Lib.hid (B1.out.trans (b2.mono B1.out.size))
  clear b2
  go_wp2_with fail
  refine (C3.out _ (HM.out.below B2.out)).mono ?_
  rintro e w3 ⟨rfl, b3⟩
  have B3 := Lib.hid (B2.out.trans (b3.mono B2.out.size))
  clear b3
  go_wp2_with fail
  refine (C4.out _ (HM.out.below B3.out)).mono ?_
  rintro e w4 ⟨rfl, b4⟩
  have B4 := Lib.hid (B3.out.trans (b4.mono B3.out.size))
  clear b4
  go_wp2_with fail
  go_ret
  exact ⟨by simp, B4.out⟩
end Go.Proofs.YtegpoiepeaofgaaDoor
