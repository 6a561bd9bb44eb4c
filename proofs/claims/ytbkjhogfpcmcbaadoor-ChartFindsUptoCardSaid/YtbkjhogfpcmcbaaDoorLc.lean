/- chart: the document's Find. Conditions: the mounts lie in memory; texts have at most 2000000 bytes. -/
import Derived.Test.YtbkjhogfpcmcbaaDoorKg
import Derived.Test.YtbkjhogfpcmcbaaDoorLa
namespace Go.Proofs.YtbkjhogfpcmcbaaDoor
open Go Go.RowKit Zn
set_option linter.unusedVariables false
set_option linter.unusedSimpArgs false
variable {w w' : World}
def stepR (q : ByteArray) (m y : Mt) : Mt := if isUnder q y && decide (dN m < dN y) then y else m
theorem stepR_self (q : ByteArray) (x : Mt) : stepR q x x = x := by unfold stepR; split <;> rfl
theorem fold_filter (q : ByteArray) (l : List Mt) (x : Mt) : bestM x (l.filter (isUnder q)) = l.foldl (stepR q) x := by
  unfold bestM
  induction l generalizing x with
  | nil => rfl
  | cons y l ih =>
    rw [List.foldl_cons]
    cases hu : isUnder q y with
    | true =>
      rw [List.filter_cons_of_pos hu, List.foldl_cons, ih]
      congr 1
      unfold stepR
      rw [hu, Bool.true_and]
      by_cases h : dN x < dN y
      · rw [if_pos h, decide_eq_true h, if_pos rfl]
      · rw [if_neg h, decide_eq_false h, if_neg (by decide)]
    | false =>
      rw [List.filter_cons_of_neg (by rw [hu]; decide), ih]
      congr 1
      unfold stepR
      rw [hu]; rfl
theorem best_fold {ms : List Mt} {q : ByteArray} {x : Mt} (hx : ms[0]? = some x) (hr : x.p = ⟨#[47]⟩) (hq : validZ q.data.toList = true) : bestOf ms q = ms.foldl (stepR q) x := by
  cases ms with
  | nil => cases hx
  | cons y l =>
    obtain rfl : y = x := by simpa using hx
    unfold bestOf underL
    rw [List.take_length, List.filter_cons_of_pos (root_under hr hq), List.foldl_cons, stepR_self]
    exact fold_filter q l y
theorem fold_snoc {ms : List Mt} {k : Nat} {x y : Mt} (q : ByteArray) (h : ms[k]? = some y) : (ms.take (k + 1)).foldl (stepR q) x = stepR q ((ms.take k).foldl (stepR q) x) y := by
  rw [List.take_add_one, h, List.foldl_append]; rfl
theorem rfind_no (a : Option Addr) (len cap : Nat) (ms : List Mt) (q : ByteArray) (w : World) (h : MsAt w a len ms) (hs : ∀ x ∈ ms, x.p.size ≤ 2000000) (hq : q.size ≤ 2000000) (hl : len ≤ 1000000) (hno : findB ms q = false) :
    Calls Tryd.prog 20 #[.slice a len cap, .string q] w fun e w' => e = .returned (.tuple #[.int .i64 0, .slice none 0 0, .int .i64 200]) ∧ Below w.heap.size w w' := by
  have C1 := rnames_any q w (by omega)
  unfold RNamed at C1
  have C2 := Lib.hid (fun (w1 : World) (b1 : Below w.heap.size w w1) => rcheck_any a len cap ms (h.below b1 (Nat.le_refl _)) (fun x hx => Nat.le_trans (hs x hx) (by omega)) hl)
  have HF := Lib.hid hno
  obtain ⟨vq, hvq⟩ : ∃ b, b = validZ q.data.toList := ⟨_, rfl⟩
  rw [← hvq] at C1
  have C1 := Lib.hid C1
  have HV := Lib.hid hvq
  clear h hs hno hvq
  go_enter Tryd.func20, Tryd.ntmps20
  go_wp2_with fail
  refine C1.out.mono ?_
  rintro e w1 ⟨⟨ad, n, c, rfl, _⟩, b1⟩
  have HB1 := Lib.hid b1
  clear b1 C1
  go_wp2_with fail
  refine (C2.out w1 HB1.out).mono ?_
  rintro e w2 ⟨rfl, b2⟩
  have HB2 := Lib.hid (HB1.out.trans (b2.mono HB1.out.size))
  clear b2 C2
  cases hc : checkB ms with
  | false =>
    rw [check_no hc]
    clear hc
    go_wp2_with fail
    exact ret_three (t := 4) (u := 5) (v := 6) (by kernel_rfl) rfl rfl rfl rfl ⟨rfl, HB2.out⟩
  | true =>
    have h0 : vq = false := by have := HF.out; unfold findB at this; rw [hc, Bool.true_and] at this; rw [HV.out, this]
    subst h0
    rw [show checkE ms = 0 by unfold checkE; rw [hc]; rfl]
    clear hc
    go_wp2_with fail
    exact ret_three (t := 4) (u := 5) (v := 6) (by kernel_rfl) rfl rfl rfl rfl ⟨rfl, HB2.out⟩
set_option maxHeartbeats 4000000 in
theorem rfind_yes (a : Option Addr) (len cap : Nat) (ms : List Mt) (q : ByteArray) (w : World) (h : MsAt w a len ms) (hs : ∀ x ∈ ms, x.p.size ≤ 2000000) (hq : q.size ≤ 2000000) (hl : len ≤ 1000000) (hyes : findB ms q = true) :
    Calls Tryd.prog 20 #[.slice a len cap, .string q] w (FoundAt w ms q) := by
  unfold findB at hyes
  obtain ⟨hc, hv⟩ := Bool.and_eq_true_iff.1 hyes
  obtain ⟨hlp, _, hr, _, _⟩ := check_parts hc
  obtain ⟨L, hL⟩ := valid_some hv
  have C1 := Lib.hid (rnames_yes q w (by omega) L hL)
  have C2 := fun (w1 : World) (b1 : Below w.heap.size w w1) => rcheck_any a len cap ms (h.below b1 (Nat.le_refl _)) (fun x hx => Nat.le_trans (hs x hx) (by omega)) hl
  rw [show checkE ms = 0 by unfold checkE; rw [hc]; rfl] at C2
  have C2 := Lib.hid C2
  have hpos : 0 < len := by rw [← h.len]; omega
  obtain ⟨b, off, x0, rfl, hp0, hbl, _, _⟩ := h.get 0 hpos
  have hx0 : x0.p = ⟨#[47]⟩ := by have := root_at hp0; rw [hr] at this; simpa using this.symm
  have HBF := Lib.hid (best_fold hp0 hx0 hv)
  have HP0 := Lib.hid hp0
  obtain ⟨hbi, hbu⟩ := best_under hr hv
  obtain ⟨hd1, hd2, _, _⟩ := depth_under hbu
  rw [ls_of hL] at hd2
  obtain ⟨Dp, hD⟩ : ∃ D, D = (lsOf (bestOf ms q).p.data.toList).length := ⟨_, rfl⟩
  rw [← hD] at hd1 hd2
  have HD1 := Lib.hid hd1
  have HD2 := Lib.hid hd2
  have HRE := Lib.hid (show restOf ms q = L.drop Dp by unfold restOf; rw [hd1, ls_of hL]; rfl)
  have H := Lib.hid h
  have HS := Lib.hid hs
  have HL := Lib.hid h.len
  clear h hs hyes hc hv hr hL hp0 hx0 hbi hbu hd1 hd2 hD hlp
  go_enter Tryd.func20, Tryd.ntmps20
  go_wp2_with fail
  refine C1.out.mono ?_
  rintro e w1 ⟨ad, c, rfl, hcl, hS, _, b1⟩
  have HB1 := Lib.hid b1
  have HS1 := Lib.hid hS
  have HCL := Lib.hid hcl
  clear b1 C1 hS hcl
  go_wp2_with fail
  refine (C2.out w1 HB1.out).mono ?_
  rintro e w2 ⟨rfl, b2⟩
  have HB2 := Lib.hid (HB1.out.trans (b2.mono HB1.out.size))
  have HS2 := Lib.hid (HS1.out.below b2)
  clear b2 C2
  go_wp2_with fail
  go_loopw [9, 10] (fun bb i wr => ∃ (k bi : Nat) (m : Mt), k ≤ len ∧ bi < len ∧ i = .int .i64 k ∧ bb = .int .i64 bi ∧ ms[bi]? = some m ∧ m = (ms.take k).foldl (stepR q) x0 ∧ Below w.heap.size w wr ∧ Strs wr ad L) (fun _ i _ => len - (intOf i).toNat)
  case atStart => exact ⟨0, 0, x0, Nat.zero_le _, hpos, rfl, rfl, HP0.out, rfl, HB2.out, HS2.out⟩
  case round =>
    obtain ⟨k, bi, m, hk, hbi, rfl, rfl, hm, hmf, hb, hS⟩ := hrel
    have HB := Lib.hid hb
    have HSS := Lib.hid hS
    have HMM := Lib.hid hm
    have HMF := Lib.hid hmf
    have HSM := Lib.hid (HS.out m (List.mem_of_getElem? hm))
    obtain ⟨b', off', m', e1, hpm, _, d0, d1⟩ := H.out.get bi hbi
    injection e1 with e1
    injection e1 with e11 e12
    subst e11 e12
    obtain rfl : m = m' := by rw [hm] at hpm; exact Option.some.inj hpm
    have d0 := (hb.cell (p := ⟨b, off + bi * 2, none⟩) hbl).trans d0
    have d1 := (hb.cell (p := ⟨b, off + bi * 2 + 1, none⟩) hbl).trans d1
    have hbw : b < wr.heap.size := Nat.lt_of_lt_of_le hbl hb.size
    clear hS hm hmf hpm
    by_cases hlt : k < len
    · obtain ⟨b', off', x, e1, hp, _, c0, _⟩ := H.out.get k hlt
      injection e1 with e1
      injection e1 with e11 e12
      subst e11 e12
      have c0 := (hb.cell (p := ⟨b, off + k * 2, none⟩) hbl).trans c0
      have HSX := Lib.hid (HS.out x (List.mem_of_getElem? hp))
      have HP := Lib.hid hp
      have HST := Lib.hid (show (ms.take (k + 1)).foldl (stepR q) x0 = stepR q m x by rw [fold_snoc q hp, HMF.out])
      clear hp hb
      go_upto_region 8 with (fail)
      cases hu : isUnder q x with
      | false =>
        have HUU := Lib.hid (show underZ q.data.toList x.p.data.toList = false from hu)
        have HNX := Lib.hid (HST.out.trans (show stepR q m x = m by unfold stepR; rw [hu]; rfl))
        clear hu
        refine wp_region_below (w0 := wr) (B := wr.heap.size) (by kernel_rfl) (by kernel_rfl) (Below.refl _ _) ?_
        go_big_quiet_want; go_big_quiet_op; go_big_quiet_on
        go_big_quiet_want; go_big_quiet_op; go_big_quiet_on
        go_big_quiet_want; go_big_quiet_op; go_big_quiet_on
        go_big_quiet_want; apply quiet_value; (· (intro w hw; go_simp; try rfl)); simp only [Act.put, List.setIfInBounds_toArray, List.set_cons_succ, List.set_cons_zero]; go_big_quiet_on
        go_big_quiet_want; apply quiet_value; (· (intro w hw; go_simp; try rfl)); simp only [Act.put, List.setIfInBounds_toArray, List.set_cons_succ, List.set_cons_zero]; go_big_quiet_on
        go_big_quiet_want; apply quiet_value; (· (intro w hw; have c0 := (hw.cell (p := ⟨b, off + k * 2, none⟩) (by show b < wr.heap.size; omega)).trans c0; go_simp; try rfl)); simp only [Act.put, List.setIfInBounds_toArray, List.set_cons_succ, List.set_cons_zero]; go_big_quiet_on
        go_big_quiet_want; apply quiet_call (f := 54) (v := .bool false); (· (intro w hw; go_simp; try rfl)); (· (intro w1 b1; have hC := runder_any q x.p w1 hq HSX.out; rw [HUU.out] at hC; exact in_below hC b1 (Nat.le_refl _))); simp only [Act.put, List.setIfInBounds_toArray, List.set_cons_succ, List.set_cons_zero]; go_big_quiet_on
        go_big_quiet_want; go_big_quiet_op; go_big_quiet_on
        go_big_quiet_skip
        go_big_quiet_skip
        go_big_quiet_skip
        go_big_quiet_skip
        go_big_quiet_skip
        go_big_quiet_skip
        go_big_quiet_skip
        go_big_quiet_skip
        go_big_quiet_skip
        go_big_quiet_skip
        go_big_quiet_skip
        go_big_quiet_skip
        go_big_quiet_skip
        go_big_quiet_want; apply quiet_value (v := .bool false); (· (intro w hw; go_simp; try rfl)); simp only [Act.put, List.setIfInBounds_toArray, List.set_cons_succ, List.set_cons_zero]; go_big_quiet_on
        refine wpQuiet_nil ?_
        intro w2 b2
        have HB3 := Lib.hid (HB.out.trans (b2.mono HB.out.size))
        have HS3 := Lib.hid (HSS.out.below b2)
        clear b2
        go_wp2_with fail
        go_roundw
        case rel => exact ⟨k + 1, bi, m, by omega, hbi, by go_num, rfl, HMM.out, HNX.out.symm, HB3.out, HS3.out⟩
        case measure => simp [intOf]; omega
      | true =>
        have HUU := Lib.hid (show underZ q.data.toList x.p.data.toList = true from hu)
        by_cases hdd : dN m < dN x
        · have HNX := Lib.hid (HST.out.trans (show stepR q m x = x by unfold stepR; rw [hu, decide_eq_true hdd]; rfl))
          have hdb : decide (dN m < dN x) = true := decide_eq_true hdd
          clear hu
          refine wp_region_below (w0 := wr) (B := wr.heap.size) (by kernel_rfl) (by kernel_rfl) (Below.refl _ _) ?_
          go_big_quiet_want; go_big_quiet_op; go_big_quiet_on
          go_big_quiet_want; go_big_quiet_op; go_big_quiet_on
          go_big_quiet_want; go_big_quiet_op; go_big_quiet_on
          go_big_quiet_want; apply quiet_value; (· (intro w hw; go_simp; try rfl)); simp only [Act.put, List.setIfInBounds_toArray, List.set_cons_succ, List.set_cons_zero]; go_big_quiet_on
          go_big_quiet_want; apply quiet_value; (· (intro w hw; go_simp; try rfl)); simp only [Act.put, List.setIfInBounds_toArray, List.set_cons_succ, List.set_cons_zero]; go_big_quiet_on
          go_big_quiet_want; apply quiet_value; (· (intro w hw; have c0 := (hw.cell (p := ⟨b, off + k * 2, none⟩) (by show b < wr.heap.size; omega)).trans c0; go_simp; try rfl)); simp only [Act.put, List.setIfInBounds_toArray, List.set_cons_succ, List.set_cons_zero]; go_big_quiet_on
          go_big_quiet_want; apply quiet_call (f := 54) (v := .bool true); (· (intro w hw; go_simp; try rfl)); (· (intro w1 b1; have hC := runder_any q x.p w1 hq HSX.out; rw [HUU.out] at hC; exact in_below hC b1 (Nat.le_refl _))); simp only [Act.put, List.setIfInBounds_toArray, List.set_cons_succ, List.set_cons_zero]; go_big_quiet_on
          go_big_quiet_want; go_big_quiet_op; go_big_quiet_on
          go_big_quiet_want; go_big_quiet_op; go_big_quiet_on
          go_big_quiet_want; go_big_quiet_op; go_big_quiet_on
          go_big_quiet_want; apply quiet_value; (· (intro w hw; go_simp; try rfl)); simp only [Act.put, List.setIfInBounds_toArray, List.set_cons_succ, List.set_cons_zero]; go_big_quiet_on
          go_big_quiet_want; apply quiet_value; (· (intro w hw; go_simp; try rfl)); simp only [Act.put, List.setIfInBounds_toArray, List.set_cons_succ, List.set_cons_zero]; go_big_quiet_on
          go_big_quiet_want; apply quiet_value; (· (intro w hw; have c0 := (hw.cell (p := ⟨b, off + k * 2, none⟩) (by show b < wr.heap.size; omega)).trans c0; go_simp; try rfl)); simp only [Act.put, List.setIfInBounds_toArray, List.set_cons_succ, List.set_cons_zero]; go_big_quiet_on
          go_big_quiet_want; apply quiet_call (f := 55) (v := .int .i64 (dN x)); (· (intro w hw; go_simp; try rfl)); (· (intro w1 b1; exact in_below (rdepth_any x.p w1 (Nat.le_trans HSX.out (by omega))) b1 (Nat.le_refl _))); simp only [Act.put, List.setIfInBounds_toArray, List.set_cons_succ, List.set_cons_zero]; go_big_quiet_on
          go_big_quiet_want; go_big_quiet_op; go_big_quiet_on
          go_big_quiet_want; go_big_quiet_op; go_big_quiet_on
          go_big_quiet_want; apply quiet_value; (· (intro w hw; go_simp; try rfl)); simp only [Act.put, List.setIfInBounds_toArray, List.set_cons_succ, List.set_cons_zero]; go_big_quiet_on
          go_big_quiet_want; apply quiet_value; (· (intro w hw; go_simp; try rfl)); simp only [Act.put, List.setIfInBounds_toArray, List.set_cons_succ, List.set_cons_zero]; go_big_quiet_on
          go_big_quiet_want; apply quiet_value; (· (intro w hw; have d0 := (hw.cell (p := ⟨b, off + bi * 2, none⟩) (by show b < wr.heap.size; omega)).trans d0; go_simp; try rfl)); simp only [Act.put, List.setIfInBounds_toArray, List.set_cons_succ, List.set_cons_zero]; go_big_quiet_on
          go_big_quiet_want; apply quiet_call (f := 55) (v := .int .i64 (dN m)); (· (intro w hw; go_simp; try rfl)); (· (intro w1 b1; exact in_below (rdepth_any m.p w1 (Nat.le_trans HSM.out (by omega))) b1 (Nat.le_refl _))); simp only [Act.put, List.setIfInBounds_toArray, List.set_cons_succ, List.set_cons_zero]; go_big_quiet_on
          go_big_quiet_want; apply quiet_value (v := .bool true); (· (intro w hw; go_simp; try rfl)); simp only [Act.put, List.setIfInBounds_toArray, List.set_cons_succ, List.set_cons_zero]; go_big_quiet_on
          go_big_quiet_want; apply quiet_value (v := .bool true); (· (intro w hw; go_simp; try rfl)); simp only [Act.put, List.setIfInBounds_toArray, List.set_cons_succ, List.set_cons_zero]; go_big_quiet_on
          refine wpQuiet_nil ?_
          intro w2 b2
          have HB3 := Lib.hid (HB.out.trans (b2.mono HB.out.size))
          have HS3 := Lib.hid (HSS.out.below b2)
          clear b2
          go_wp2_with fail
          go_roundw
          case rel => exact ⟨k + 1, k, x, by omega, hlt, by go_num, rfl, HP.out, HNX.out.symm, HB3.out, HS3.out⟩
          case measure => simp [intOf]; omega
        · have HNX := Lib.hid (HST.out.trans (show stepR q m x = m by unfold stepR; rw [hu, decide_eq_false hdd]; rfl))
          have hdb : decide (dN m < dN x) = false := decide_eq_false hdd
          clear hu
          refine wp_region_below (w0 := wr) (B := wr.heap.size) (by kernel_rfl) (by kernel_rfl) (Below.refl _ _) ?_
          go_big_quiet_want; go_big_quiet_op; go_big_quiet_on
          go_big_quiet_want; go_big_quiet_op; go_big_quiet_on
          go_big_quiet_want; go_big_quiet_op; go_big_quiet_on
          go_big_quiet_want; apply quiet_value; (· (intro w hw; go_simp; try rfl)); simp only [Act.put, List.setIfInBounds_toArray, List.set_cons_succ, List.set_cons_zero]; go_big_quiet_on
          go_big_quiet_want; apply quiet_value; (· (intro w hw; go_simp; try rfl)); simp only [Act.put, List.setIfInBounds_toArray, List.set_cons_succ, List.set_cons_zero]; go_big_quiet_on
          go_big_quiet_want; apply quiet_value; (· (intro w hw; have c0 := (hw.cell (p := ⟨b, off + k * 2, none⟩) (by show b < wr.heap.size; omega)).trans c0; go_simp; try rfl)); simp only [Act.put, List.setIfInBounds_toArray, List.set_cons_succ, List.set_cons_zero]; go_big_quiet_on
          go_big_quiet_want; apply quiet_call (f := 54) (v := .bool true); (· (intro w hw; go_simp; try rfl)); (· (intro w1 b1; have hC := runder_any q x.p w1 hq HSX.out; rw [HUU.out] at hC; exact in_below hC b1 (Nat.le_refl _))); simp only [Act.put, List.setIfInBounds_toArray, List.set_cons_succ, List.set_cons_zero]; go_big_quiet_on
          go_big_quiet_want; go_big_quiet_op; go_big_quiet_on
          go_big_quiet_want; go_big_quiet_op; go_big_quiet_on
          go_big_quiet_want; go_big_quiet_op; go_big_quiet_on
          go_big_quiet_want; apply quiet_value; (· (intro w hw; go_simp; try rfl)); simp only [Act.put, List.setIfInBounds_toArray, List.set_cons_succ, List.set_cons_zero]; go_big_quiet_on
          go_big_quiet_want; apply quiet_value; (· (intro w hw; go_simp; try rfl)); simp only [Act.put, List.setIfInBounds_toArray, List.set_cons_succ, List.set_cons_zero]; go_big_quiet_on
          go_big_quiet_want; apply quiet_value; (· (intro w hw; have c0 := (hw.cell (p := ⟨b, off + k * 2, none⟩) (by show b < wr.heap.size; omega)).trans c0; go_simp; try rfl)); simp only [Act.put, List.setIfInBounds_toArray, List.set_cons_succ, List.set_cons_zero]; go_big_quiet_on
          go_big_quiet_want; apply quiet_call (f := 55) (v := .int .i64 (dN x)); (· (intro w hw; go_simp; try rfl)); (· (intro w1 b1; exact in_below (rdepth_any x.p w1 (Nat.le_trans HSX.out (by omega))) b1 (Nat.le_refl _))); simp only [Act.put, List.setIfInBounds_toArray, List.set_cons_succ, List.set_cons_zero]; go_big_quiet_on
          go_big_quiet_want; go_big_quiet_op; go_big_quiet_on
          go_big_quiet_want; go_big_quiet_op; go_big_quiet_on
          go_big_quiet_want; apply quiet_value; (· (intro w hw; go_simp; try rfl)); simp only [Act.put, List.setIfInBounds_toArray, List.set_cons_succ, List.set_cons_zero]; go_big_quiet_on
          go_big_quiet_want; apply quiet_value; (· (intro w hw; go_simp; try rfl)); simp only [Act.put, List.setIfInBounds_toArray, List.set_cons_succ, List.set_cons_zero]; go_big_quiet_on
          go_big_quiet_want; apply quiet_value; (· (intro w hw; have d0 := (hw.cell (p := ⟨b, off + bi * 2, none⟩) (by show b < wr.heap.size; omega)).trans d0; go_simp; try rfl)); simp only [Act.put, List.setIfInBounds_toArray, List.set_cons_succ, List.set_cons_zero]; go_big_quiet_on
          go_big_quiet_want; apply quiet_call (f := 55) (v := .int .i64 (dN m)); (· (intro w hw; go_simp; try rfl)); (· (intro w1 b1; exact in_below (rdepth_any m.p w1 (Nat.le_trans HSM.out (by omega))) b1 (Nat.le_refl _))); simp only [Act.put, List.setIfInBounds_toArray, List.set_cons_succ, List.set_cons_zero]; go_big_quiet_on
          go_big_quiet_want; apply quiet_value (v := .bool false); (· (intro w hw; go_simp; try rfl)); simp only [Act.put, List.setIfInBounds_toArray, List.set_cons_succ, List.set_cons_zero]; go_big_quiet_on
          go_big_quiet_want; apply quiet_value (v := .bool false); (· (intro w hw; go_simp; try rfl)); simp only [Act.put, List.setIfInBounds_toArray, List.set_cons_succ, List.set_cons_zero]; go_big_quiet_on
          refine wpQuiet_nil ?_
          intro w2 b2
          have HB3 := Lib.hid (HB.out.trans (b2.mono HB.out.size))
          have HS3 := Lib.hid (HSS.out.below b2)
          clear b2
          go_wp2_with fail
          go_roundw
          case rel => exact ⟨k + 1, bi, m, by omega, hbi, by go_num, rfl, HMM.out, HNX.out.symm, HB3.out, HS3.out⟩
          case measure => simp [intOf]; omega
    · obtain rfl : k = len := by omega
      have HBM := Lib.hid (show bestOf ms q = m by rw [HBF.out, HMF.out, List.take_of_length_le (by rw [HL.out]; exact Nat.le_refl _)])
      have HDm := Lib.hid (show depthZ m.p.data.toList = (Dp : Int) by have := HD1.out; rw [HBM.out] at this; exact this)
      have hD1 : (Dp : Int) ≤ (L.length : Int) := by have := HD2.out; omega
      have hS8 := strs_cut HSS.out HCL.out HD2.out
      have HS8 := Lib.hid hS8
      clear hb hS8
      go_upto_region 10 with (fail)
      refine wp_region_below (w0 := wr) (B := wr.heap.size) (by kernel_rfl) (by kernel_rfl) (Below.refl _ _) ?_
      go_big_quiet_want; go_big_quiet_op; go_big_quiet_on
      go_big_quiet_want; go_big_quiet_op; go_big_quiet_on
      go_big_quiet_want; apply quiet_value; (· (intro w hw; go_simp; try rfl)); simp only [Act.put, List.setIfInBounds_toArray, List.set_cons_succ, List.set_cons_zero]; go_big_quiet_on
      go_big_quiet_want; apply quiet_value; (· (intro w hw; go_simp; try rfl)); simp only [Act.put, List.setIfInBounds_toArray, List.set_cons_succ, List.set_cons_zero]; go_big_quiet_on
      go_big_quiet_want; apply quiet_value; (· (intro w hw; have d1 := (hw.cell (p := ⟨b, off + bi * 2 + 1, none⟩) (by show b < wr.heap.size; omega)).trans d1; go_simp; try rfl)); simp only [Act.put, List.setIfInBounds_toArray, List.set_cons_succ, List.set_cons_zero]; go_big_quiet_on
      go_big_quiet_want; go_big_quiet_op; go_big_quiet_on
      go_big_quiet_want; go_big_quiet_op; go_big_quiet_on
      go_big_quiet_want; go_big_quiet_op; go_big_quiet_on
      go_big_quiet_want; apply quiet_value; (· (intro w hw; go_simp; try rfl)); simp only [Act.put, List.setIfInBounds_toArray, List.set_cons_succ, List.set_cons_zero]; go_big_quiet_on
      go_big_quiet_want; apply quiet_value; (· (intro w hw; go_simp; try rfl)); simp only [Act.put, List.setIfInBounds_toArray, List.set_cons_succ, List.set_cons_zero]; go_big_quiet_on
      go_big_quiet_want; apply quiet_value; (· (intro w hw; have d0 := (hw.cell (p := ⟨b, off + bi * 2, none⟩) (by show b < wr.heap.size; omega)).trans d0; go_simp; try rfl)); simp only [Act.put, List.setIfInBounds_toArray, List.set_cons_succ, List.set_cons_zero]; go_big_quiet_on
      go_big_quiet_want; apply quiet_call (f := 55) (v := .int .i64 (Dp : Nat)); (· (intro w hw; go_simp; try rfl)); (· (intro w1 b1; have hC := rdepth_any m.p w1 (Nat.le_trans HSM.out (by omega)); rw [HDm.out] at hC; exact in_below hC b1 (Nat.le_refl _))); simp only [Act.put, List.setIfInBounds_toArray, List.set_cons_succ, List.set_cons_zero]; go_big_quiet_on
      go_big_quiet_want; apply quiet_value (v := .slice (if c = Dp then ad else ad.map (·.add Dp)) (L.length - Dp) (c - Dp)); (· (intro w hw; go_simp; try rfl)); simp only [Act.put, List.setIfInBounds_toArray, List.set_cons_succ, List.set_cons_zero]; go_big_quiet_on
      go_big_quiet_want; go_big_quiet_op; go_big_quiet_on
      go_big_quiet_want; go_big_quiet_op; go_big_quiet_on
      go_big_quiet_want; go_big_quiet_op; go_big_quiet_on
      refine wpQuiet_nil ?_
      intro w2 b2
      have HB3 := Lib.hid (HB.out.trans (b2.mono HB.out.size))
      have HS9 := Lib.hid (HS8.out.below b2)
      clear b2 HS8
      generalize (if c = Dp then ad else ad.map (·.add Dp)) = a8 at HS9 ⊢
      go_wp2_with fail
      refine ret_three (t := 4) (u := 5) (v := 6) (x := .int .i64 m.v) (y := .slice a8 (L.length - Dp) (c - Dp)) (z := .int .i64 0) (by kernel_rfl) rfl rfl rfl rfl ?_
      refine ⟨a8, c - Dp, ?_, by rw [HRE.out]; exact HS9.out, HB3.out⟩
      rw [HRE.out, HBM.out, List.length_drop]
end Go.Proofs.YtbkjhogfpcmcbaaDoor
