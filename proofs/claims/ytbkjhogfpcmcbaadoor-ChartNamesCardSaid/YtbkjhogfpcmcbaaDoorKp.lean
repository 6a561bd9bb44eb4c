/- chart: the document's Cut of any text. Conditions: the text has at most 2000000 bytes; the library's variable holds a number. -/
import Derived.Test.YtbkjhogfpcmcbaaDoorKh
namespace Go.Proofs.YtbkjhogfpcmcbaaDoor
open Go Go.RowKit Zn
set_option linter.unusedVariables false
set_option linter.unusedSimpArgs false
variable {w w' : World}
theorem ten_of_val (l : Nm) (h : digs l = true) : tenR l.length (val l) = l := by
  have H : ∀ r : Nm, digs r.reverse = true → tenR r.length (val r.reverse) = r.reverse := by
    intro r
    induction r with
    | nil => intro _; rfl
    | cons c r ih =>
      intro h
      rw [List.reverse_cons, digs_snoc, Bool.and_eq_true] at h
      obtain ⟨h1, h2⟩ := h
      unfold digC at h2
      simp only [Bool.and_eq_true, decide_eq_true_eq] at h2
      rw [List.reverse_cons, val_snoc, List.length_cons, tenR]
      have e1 : (10 * val r.reverse + (c.toNat - 48)) / 10 = val r.reverse := by omega
      have e2 : dig (10 * val r.reverse + (c.toNat - 48)) = c := by
        apply UInt8.toNat_inj.1
        rw [dig_nat]; omega
      rw [e1, e2, ih h1]
  have := H l.reverse (by simpa using h)
  simpa using this
theorem num_tail {p : Nm} (h10 : 10 ≤ p.length) (hd : digs (suf10 p) = true) : numOk (pre10 p) ((val (suf10 p) : Nat) : Int) = tailB p ∧ pre10 p ++ tenR 10 (val (suf10 p)) = p := by
  have hl : (suf10 p).length = 10 := by unfold suf10; rw [List.length_drop]; omega
  have ht : tenR 10 (val (suf10 p)) = suf10 p := by have := ten_of_val _ hd; rwa [hl] at this
  have hj : pre10 p ++ suf10 p = p := List.take_append_drop _ _
  have hb := val_bound (suf10 p) (digs_val hd)
  rw [hl] at hb
  refine ⟨?_, by rw [ht]; exact hj⟩
  unfold numOk tailB
  rw [Int.toNat_natCast, ht, hj, decide_eq_true (by omega), decide_eq_true (by omega), Bool.and_true, Bool.and_true]
  congr 2
  rw [Bool.eq_iff_iff]
  simp
set_option maxHeartbeats 2000000 in
theorem rcut_any (s : ByteArray) (w : World) (hs : s.size ≤ 2000000) : Calls Tryd.prog 25 #[.string s] w (Cutted w s.data.toList) := by
  obtain ⟨p, hp⟩ : ∃ p, p = s.data.toList := ⟨_, rfl⟩
  rw [← hp]
  have hpl : p.length = s.size := by rw [hp]; exact (Lib.size_eq s).symm
  by_cases h10 : s.size < 10
  · have HE := Lib.hid (cut_short (p := p) (by omega))
    have hN0 : decide ((s.size : Int) < 10) = true := by rw [decide_eq_true_iff]; omega
    clear hp hpl
    go_enter Tryd.func25, Tryd.ntmps25
    go_wp2_with fail
    exact ret_three (t := 2) (u := 3) (v := 4) (by kernel_rfl) rfl rfl rfl rfl (Cutted.no HE.out (Below.refl _ _))
  have hN0 : decide ((s.size : Int) < 10) = false := by rw [decide_eq_false_iff_not]; omega
  obtain ⟨N, hN⟩ : ∃ N, s.size = N + 10 := ⟨s.size - 10, by omega⟩
  have hp10 : p.length - 10 = N := by omega
  obtain ⟨T, hT⟩ : ∃ T, T = suf10 p := ⟨_, rfl⟩
  have hTL : T.length = 10 := by rw [hT, suf10, List.length_drop]; omega
  have HTL := Lib.hid hTL
  have hws : IntKind.i64.wrap ((s.size : Int) - 10) = (N : Int) := by rw [IntKind.wrap_i64]; omega
  have hsub : (s.size : Int) - 10 = (N : Int) := by omega
  have HSN := Lib.hid hN
  have HQ0 := Lib.hid (show (s.extract 0 N).data.toList = pre10 p by
    rw [Lib.extract_data, ← hp, List.drop_zero, Nat.sub_zero, pre10, hp10])
  have HCB := Lib.hid (show cutB p = (digs T && tailB p) by unfold cutB; rw [decide_eq_true (by omega), Bool.true_and, hT])
  have HT := Lib.hid hT
  have HP := Lib.hid hp
  have HTA := Lib.hid (show ∀ k, N ≤ k → (hk : k < s.size) → T[k - N]? = some (s[k]'hk) from fun k h1 h2 => by
    rw [hT, suf10, hp10, List.getElem?_drop, show N + (k - N) = k by omega, hp]; exact at_byte s k h2)
  have CN := fun n w1 => rnumber_any (s.extract 0 N) n w1 (by rw [Lib.size_eq, HQ0.out, pre10, List.length_take]; omega)
  unfold Numbered at CN
  rw [HQ0.out] at CN
  have CN := Lib.hid CN
  have HNT := Lib.hid (show digs T = true → numOk (pre10 p) ((val T : Nat) : Int) = tailB p ∧ pre10 p ++ tenR 10 (val T) = p from fun h => by rw [hT] at h ⊢; exact num_tail (by omega) h)
  have hNl : N ≤ 2000000 := by omega
  have hsz9 : s.size ≤ 9223372036854775807 := by omega
  clear hp hpl hp10 hT hTL h10 hN
  go_enter Tryd.func25, Tryd.ntmps25
  go_wp2_with fail
  go_loopw [5, 6] (fun n i wr => ∃ k : Nat, N ≤ k ∧ k ≤ s.size ∧ i = .int .i64 k ∧ n = .int .i64 ((val (T.take (k - N)) : Nat) : Int) ∧ digs (T.take (k - N)) = true ∧ wr = w) (fun _ i _ => s.size - (intOf i).toNat)
  case atStart => exact ⟨N, Nat.le_refl _, by rw [HSN.out]; omega, rfl, by rw [Nat.sub_self]; rfl, by rw [Nat.sub_self]; rfl, rfl⟩
  case round =>
    obtain ⟨k, hNk, hk, rfl, rfl, hdt, rfl⟩ := hrel
    have HDT := Lib.hid hdt
    clear hdt
    by_cases hlt : k < s.size
    · have hb := HTA.out k hNk hlt
      have hvb : val (T.take (k - N)) ≤ 9999999999 := by
        have h5 := val_bound (T.take (k - N)) (digs_val HDT.out)
        have h6 : (T.take (k - N)).length ≤ 10 := by rw [List.length_take]; have := HTL.out; omega
        have h7 : 10 ^ (T.take (k - N)).length ≤ 10 ^ 10 := Nat.pow_le_pow_right (by omega) h6
        omega
      obtain ⟨c, hc⟩ : ∃ c, c = s[k]'hlt := ⟨_, rfl⟩
      rw [← hc] at hb
      have HB := Lib.hid hb
      have HNO := Lib.hid (show digC c = false → cutB p = false from fun h => by rw [HCB.out, digs_no HB.out h]; rfl)
      have HN2 := Lib.hid (show val (T.take (k + 1 - N)) = 10 * val (T.take (k - N)) + (c.toNat - 48) by rw [show k + 1 - N = (k - N) + 1 by omega, List.take_add_one, hb]; exact val_snoc _ _)
      have HD2 := Lib.hid (show digC c = true → digs (T.take (k + 1 - N)) = true from fun h => by rw [show k + 1 - N = (k - N) + 1 by omega, List.take_add_one, hb]; exact (digs_snoc _ _).trans (by rw [HDT.out, h]; rfl))
      have hc' : s[k]'hlt = c := hc.symm
      have hcu : c.toNat < 256 := c.toNat_lt
      obtain ⟨v, hv⟩ : ∃ v, v = val (T.take (k - N)) := ⟨_, rfl⟩
      rw [← hv] at HN2 hvb ⊢
      clear hc hb hv
      by_cases d1 : (c.toNat : Int) < 48
      · have HC := Lib.hid (HNO.out (by unfold digC; rw [decide_eq_false (by omega)]; rfl))
        go_wp2_with fail
        exact ret_three (t := 2) (u := 3) (v := 4) (by kernel_rfl) rfl rfl rfl rfl (Cutted.no HC.out (Below.refl _ _))
      · by_cases d2 : (57 : Int) < (c.toNat : Int)
        · have HC := Lib.hid (HNO.out (by unfold digC; rw [decide_eq_false (by omega : ¬ c.toNat ≤ 57), Bool.and_false]))
          have d1b : decide ((c.toNat : Int) < 48) = false := by rw [decide_eq_false_iff_not]; omega
          have d2b : decide ((57 : Int) < (c.toNat : Int)) = true := by rw [decide_eq_true_iff]; omega
          clear d1 d2
          go_wp2_with fail
          exact ret_three (t := 2) (u := 3) (v := 4) (by kernel_rfl) rfl rfl rfl rfl (Cutted.no HC.out (Below.refl _ _))
        · have HDD := Lib.hid (HD2.out (by unfold digC; rw [decide_eq_true (by omega), decide_eq_true (by omega)]; rfl))
          have d3 : (48 : Int) ≤ (c.toNat : Int) := by omega
          have d4 : (c.toNat : Int) ≤ 57 := by omega
          have d1b : decide ((c.toNat : Int) < 48) = false := by rw [decide_eq_false_iff_not]; omega
          have d2b : decide ((57 : Int) < (c.toNat : Int)) = false := by rw [decide_eq_false_iff_not]; omega
          clear d1 d2
          go_wp2_with fail
          go_roundw
          case rel => exact ⟨k + 1, by omega, by omega, by go_num, by rw [HN2.out]; congr 1; omega, HDD.out, trivial⟩
          case measure => simp [intOf]; omega
    · obtain rfl : k = s.size := by omega
      have htk : T.take (s.size - N) = T := List.take_of_length_le (by rw [HTL.out, HSN.out]; omega)
      have hdT : digs T = true := by have := HDT.out; rwa [htk] at this
      rw [htk]
      obtain ⟨hn1, hn2⟩ := HNT.out hdT
      have HC := Lib.hid (show cutB p = tailB p by rw [HCB.out, hdT]; rfl)
      have HV := Lib.hid (show val T = val (suf10 p) by rw [HT.out])
      have C := CN.out ((val T : Nat) : Int) wr
      obtain ⟨O, hO⟩ : ∃ O, O = numZ (pre10 p) ((val T : Nat) : Int) := ⟨_, rfl⟩
      rw [hn1, ← hO] at C
      obtain ⟨v, hv⟩ : ∃ v, v = val T := ⟨_, rfl⟩
      rw [← hv] at C HV ⊢
      have HO := Lib.hid (show tailB p = true → O = p from fun h => by
        rw [hO]; unfold numZ
        rw [hn1, h, if_pos rfl, Int.toNat_natCast]; exact hn2)
      clear htk hdT hn1 hn2 hv hO hlt
      cases ht : tailB p with
      | false =>
        rw [ht] at C
        have C := Lib.hid C
        have HC := Lib.hid (HC.out.trans ht)
        clear ht
        go_wp2_with fail
        refine C.out.mono ?_
        rintro e w1 ⟨rfl, b1⟩
        have HB := Lib.hid b1
        clear b1 C
        go_wp2_with fail
        exact ret_three (t := 2) (u := 3) (v := 4) (by kernel_rfl) rfl rfl rfl rfl (Cutted.no HC.out HB.out)
      | true =>
        have hOp := HO.out ht
        rw [ht] at C
        have hos : (⟨O.toArray⟩ : ByteArray) = s := by
          apply Go.WideShapes.bytes_inj
          show O = _
          rw [hOp, HP.out]
        rw [hos] at C
        have C := Lib.hid C
        have HC := Lib.hid (HC.out.trans ht)
        clear ht hOp hos
        go_wp2_with fail
        refine C.out.mono ?_
        rintro e w1 ⟨rfl, b1⟩
        have HB := Lib.hid b1
        clear b1 C
        go_wp2_with fail
        exact ret_three (t := 2) (u := 3) (v := 4) (by kernel_rfl) rfl rfl rfl rfl (Cutted.yes HC.out HQ0.out HV.out HB.out)
end Go.Proofs.YtbkjhogfpcmcbaaDoor
