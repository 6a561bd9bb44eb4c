/- chart: the document's Number, Folder; the folders and views of volumes. Conditions: as in each statement. -/
import Derived.Test.YtbkjhogfpcmcbaaDoorLh
import Derived.Test.YtbkjhogfpcmcbaaDoorLj
namespace Go.Proofs.YtbkjhogfpcmcbaaDoor
open Go Go.RowKit Zn
open Go.Lib (decDigits)
set_option linter.unusedVariables false
set_option linter.unusedSimpArgs false
variable {w w' : World}
def Numd (l : Nm) (w : World) (e : Ending) (w' : World) : Prop := e = .returned (.int .i64 (numV l)) ∧ Below w.heap.size w w'
theorem Numd.no {l : Nm} (h : numB l = false) (hb : Below w.heap.size w w') : Numd l w (.returned (.int .i64 (-1))) w' := ⟨by unfold numV; rw [h]; rfl, hb⟩
set_option maxHeartbeats 4000000 in
theorem rnum_any (s : ByteArray) (w : World) (hs : s.size ≤ 140737488351232) : Calls Tryd.prog 35 #[.string s] w (Numd s.data.toList w) := by
  obtain ⟨l, hl⟩ : ∃ l, l = s.data.toList := ⟨_, rfl⟩
  rw [← hl]
  have hll : l.length = s.size := by rw [hl]; exact (Lib.size_eq s).symm
  have HL := Lib.hid hl
  have HLL := Lib.hid hll
  clear hl hll
  go_enter Tryd.func35, Tryd.ntmps35
  go_wp2_with fail
  go_loopw [3, 4, 5] (fun n i _ wr => ∃ k : Nat, k ≤ s.size ∧ i = .int .i64 k ∧ n = .int .i64 ((val (l.take k) : Nat) : Int) ∧ digs (l.take k) = true ∧ Hid (val (l.take k) ≤ 4611686018427387904) ∧ wr = w) (fun _ i _ _ => s.size - (intOf i).toNat)
  case atStart => exact ⟨0, Nat.zero_le _, rfl, rfl, rfl, (by show val [] ≤ _; decide), rfl⟩
  case round =>
    obtain ⟨k, hk, rfl, rfl, hdt, HVT, rfl⟩ := hrel
    have HDT := Lib.hid hdt
    clear hdt
    by_cases hlt : k < s.size
    · have hb : l[k]? = some (s[k]'hlt) := by rw [HL.out]; exact at_byte s k hlt
      obtain ⟨c, hc⟩ : ∃ c, c = s[k]'hlt := ⟨_, rfl⟩
      have hc' : s[k]'hlt = c := hc.symm
      rw [← hc] at hb
      have HNO := Lib.hid (show digC c = false → numB l = false from fun h => num_dig (digs_no hb h))
      have HN2 := Lib.hid (show val (l.take (k + 1)) = 10 * val (l.take k) + (c.toNat - 48) from val_next hb)
      have HBIG := Lib.hid (show 4611686018427387904 < val (l.take (k + 1)) → numB l = false from fun h => num_big h)
      have HD2 := Lib.hid (show digC c = true → digs (l.take (k + 1)) = true from fun h => digs_next hb HDT.out h)
      have hcu : c.toNat < 256 := c.toNat_lt
      obtain ⟨v, hv⟩ : ∃ v, v = val (l.take k) := ⟨_, rfl⟩
      rw [← hv] at HN2 HVT ⊢
      clear hc hb hv
      by_cases d1 : (c.toNat : Int) < 48
      · have HC := Lib.hid (HNO.out (by unfold digC; rw [decide_eq_false (by omega)]; rfl))
        have d1b : decide ((c.toNat : Int) - 48 < 0) = true := by rw [decide_eq_true_iff]; omega
        clear d1
        go_wp2_with fail
        go_ret
        exact Numd.no HC.out (Below.refl _ _)
      · by_cases d2 : (57 : Int) < (c.toNat : Int)
        · have HC := Lib.hid (HNO.out (by unfold digC; rw [decide_eq_false (by omega : ¬ c.toNat ≤ 57), Bool.and_false]))
          have d1b : decide ((c.toNat : Int) - 48 < 0) = false := by rw [decide_eq_false_iff_not]; omega
          have d2b : decide ((9 : Int) < (c.toNat : Int) - 48) = true := by rw [decide_eq_true_iff]; omega
          clear d1 d2
          go_wp2_with fail
          go_ret
          exact Numd.no HC.out (Below.refl _ _)
        · have HDD := Lib.hid (HD2.out (by unfold digC; rw [decide_eq_true (by omega), decide_eq_true (by omega)]; rfl))
          obtain ⟨d, hd⟩ : ∃ d : Nat, c.toNat = 48 + d := ⟨c.toNat - 48, by omega⟩
          have hd9 : d ≤ 9 := by omega
          have hcd : (c.toNat : Int) - 48 = (d : Int) := by omega
          have HN2 := Lib.hid (show val (l.take (k + 1)) = 10 * v + d by rw [HN2.out]; omega)
          have d1b : decide ((d : Int) < 0) = false := by rw [decide_eq_false_iff_not]; omega
          have d2b : decide ((9 : Int) < (d : Int)) = false := by rw [decide_eq_false_iff_not]; omega
          obtain ⟨m, hm⟩ : ∃ m : Nat, m = (4611686018427387904 - d) / 10 := ⟨_, rfl⟩
          have hmd : ((4611686018427387904 : Int) - (d : Int)) / 10 = (m : Int) := by omega
          have hw0 : IntKind.i64.wrap ((4611686018427387904 : Int) - (d : Int)) = (4611686018427387904 : Int) - (d : Int) := by rw [IntKind.wrap_i64]; omega
          have hw00 : IntKind.i64.wrap (m : Int) = (m : Int) := by rw [IntKind.wrap_i64]; omega
          clear d1 d2 hd hcu
          by_cases d5 : m < v
          · have HC := Lib.hid (HBIG.out (by rw [HN2.out]; omega))
            have d5b : decide ((m : Int) < (v : Int)) = true := by rw [decide_eq_true_iff]; omega
            clear hm hd9
            go_wp2_with fail
            go_ret
            exact Numd.no HC.out (Below.refl _ _)
          · have d5b : decide ((m : Int) < (v : Int)) = false := by rw [decide_eq_false_iff_not]; omega
            have hw1 : IntKind.i64.wrap ((v : Int) * 10) = (v : Int) * 10 := by rw [IntKind.wrap_i64]; have := HVT.out; omega
            have hw2 : IntKind.i64.wrap ((v : Int) * 10 + (d : Int)) = (v : Int) * 10 + (d : Int) := by rw [IntKind.wrap_i64]; have := HVT.out; omega
            have HV2 := Lib.hid (show 10 * v + d ≤ 4611686018427387904 by omega)
            have HVZ := Lib.hid (show ((10 * v + d : Nat) : Int) = (v : Int) * 10 + (d : Int) by omega)
            clear hm hd9
            go_wp2_with fail
            go_roundw
            case rel => exact ⟨k + 1, by omega, by go_num, by rw [HN2.out, HVZ.out], HDD.out, (by rw [HN2.out]; exact HV2), trivial⟩
            case measure => simp [intOf]; omega
    · obtain rfl : k = s.size := by omega
      have htk : l.take s.size = l := List.take_of_length_le (by rw [HLL.out]; exact Nat.le_refl _)
      have hdl : digs l = true := by have := HDT.out; rwa [htk] at this
      rw [htk] at HVT ⊢
      have hF := num_eq hdl HVT.out
      have C := fun w1 => rdigits_any (val l) HVT.out w1
      unfold Digited at C
      obtain ⟨T, hT⟩ : ∃ T : ByteArray, T = ⟨(decDigits (val l)).toArray⟩ := ⟨_, rfl⟩
      rw [← hT] at C
      have hTD : T.data.toList = decDigits (val l) := by rw [hT]
      rw [← hTD] at hF
      have HNV := Lib.hid (show numB l = true → numV l = ((val l : Nat) : Int) from fun h => by unfold numV; rw [h]; rfl)
      obtain ⟨v, hv⟩ : ∃ v, v = val l := ⟨_, rfl⟩
      rw [← hv] at HNV HVT C ⊢
      have C := Lib.hid C
      by_cases h0 : s.size = 0
      · have hln : l = [] := List.length_eq_zero_iff.1 (by rw [HLL.out]; exact h0)
        have he : s.toList.isEmpty = true := by rw [Lib.toList_data, ← HL.out, hln]; rfl
        have HE := Lib.hid (show numB l = false by rw [hln]; exact num_nil)
        clear htk hdl hF hT hTD hv h0 hln hlt
        go_wp2_with fail
        go_ret
        exact Numd.no HE.out (Below.refl _ _)
      · have he : s.toList.isEmpty = false := by
          rw [Lib.toList_data, ← HL.out]
          cases hl0 : l with
          | nil => have := HLL.out; rw [hl0] at this; simp at this; omega
          | cons _ _ => rfl
        cases hb : numB l with
        | false =>
          rw [hb] at hF
          have q1 : (T.toList == s.toList) = false := by
            rw [Lib.toList_data, Lib.toList_data, ← HL.out, beq_eq_false_iff_ne]
            exact fun e => of_decide_eq_false hF.symm e.symm
          have HC := Lib.hid hb
          clear htk hdl hF hT hTD hv h0 hlt hb
          go_wp2_with fail
          refine (C.out _).mono ?_
          rintro e w1 ⟨rfl, b1⟩
          have HB := Lib.hid b1
          clear b1
          go_wp2_with fail
          go_ret
          exact Numd.no HC.out HB.out
        | true =>
          rw [hb] at hF
          have hTs : T = s := by
            apply Go.WideShapes.bytes_inj
            rw [← HL.out]
            exact (of_decide_eq_true hF.symm).symm
          have HC := Lib.hid hb
          clear htk hdl hF hT hTD hv h0 hlt hb
          subst hTs
          go_wp2_with fail
          refine (C.out _).mono ?_
          rintro e w1 ⟨rfl, b1⟩
          have HB := Lib.hid b1
          clear b1
          go_wp2_with fail
          go_ret
          exact ⟨by rw [HNV.out HC.out]; rfl, HB.out⟩
theorem rfolder_no (v : Int) (w : World) (h : v < 1 ∨ 999 < v) : Calls Tryd.prog 31 #[.int .i64 v] w fun e w' => e = .returned (.string ⟨#[]⟩) ∧ Below w.heap.size w w' := by
  go_enter Tryd.func31, Tryd.ntmps31
  by_cases h1 : v < 1
  · go_wp2_with fail
    go_ret
    exact ⟨rfl, Below.refl _ _⟩
  · have h2 : 999 < v := by omega
    go_wp2_with fail
    go_ret
    exact ⟨rfl, Below.refl _ _⟩
theorem rfolder_yes (n : Nat) (w : World) (h1 : 1 ≤ n) (h2 : n ≤ 999) : Calls Tryd.prog 31 #[.int .i64 n] w fun e w' => e = .returned (.string ((⟨#[47, 118, 111, 108, 45]⟩ : ByteArray) ++ ⟨(decDigits n).toArray⟩)) ∧ Below w.heap.size w w' := by
  have C := rdigits_any n (by omega) w
  unfold Digited at C
  have HL := Lib.hid (dec_len 2 n (by omega))
  obtain ⟨t, ht⟩ : ∃ T : ByteArray, T = ⟨(decDigits n).toArray⟩ := ⟨_, rfl⟩
  have hts : t.size ≤ 3 := by rw [ht]; show (decDigits n).toArray.size ≤ 3; rw [List.size_toArray]; exact HL.out
  rw [← ht] at C ⊢
  have C := Lib.hid C
  have hsz : ¬ 9223372036854775807 < 5 + t.size := by omega
  have d1 : decide ((n : Int) < 1) = false := by rw [decide_eq_false_iff_not]; omega
  have d2 : decide (999 < (n : Int)) = false := by rw [decide_eq_false_iff_not]; omega
  clear h1 h2 ht
  go_enter Tryd.func31, Tryd.ntmps31
  go_wp2_with fail
  refine C.out.mono ?_
  rintro e w1 ⟨rfl, b1⟩
  have HB := Lib.hid b1
  clear b1 C
  go_wp2_with fail
  go_ret
  exact ⟨rfl, HB.out⟩
theorem digs_lets {l : Nm} (h : digs l = true) : lets l = true := by
  unfold lets
  rw [List.all_eq_true]
  intro c hc
  have := List.all_eq_true.1 h c hc
  unfold digC at this
  simp only [Bool.and_eq_true, decide_eq_true_eq] at this
  unfold letN
  rw [decide_eq_true_eq]
  omega
theorem view_valid (n : Nat) (h2 : n ≤ 999) : validZ ([47, 118, 111, 108, 45] ++ decDigits n ++ [47, 118, 105, 101, 119]) = true := by
  have hl := dec_len 2 n (by omega)
  have hd := digs_lets (dec_all n).1
  have hN : nameB ([118, 111, 108, 45] ++ decDigits n) = true := by
    unfold nameB
    have e1 : lets ([118, 111, 108, 45] ++ decDigits n) = true := by
      have : lets [118, 111, 108, 45] = true := by decide
      unfold lets at this hd ⊢
      rw [List.all_append, this, hd]; rfl
    rw [e1, decide_eq_true (by rw [List.length_append]; simp; omega), decide_eq_true (by rw [List.length_append]; simp; omega)]
    simp
  have hN2 : nameB [118, 105, 101, 119] = true := by decide
  have : namesO ([47, 118, 111, 108, 45] ++ decDigits n ++ [47, 118, 105, 101, 119]) = some [[118, 111, 108, 45] ++ decDigits n, [118, 105, 101, 119]] := by
    refine (names_iff _ _).2 ⟨?_, by simp, by rw [List.all_cons, hN, List.all_cons, hN2]; rfl⟩
    unfold pathOf
    rw [if_neg (by simp), flat_cons, flat_cons, flat_nil]
    simp
  unfold validZ
  rw [this]; rfl
end Go.Proofs.YtbkjhogfpcmcbaaDoor
