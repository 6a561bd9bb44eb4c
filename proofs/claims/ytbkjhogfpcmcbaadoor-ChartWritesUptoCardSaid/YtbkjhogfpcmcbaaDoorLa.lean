/- chart: the document's check of a map. Conditions: the mounts lie in memory; texts have at most 4194304 bytes. -/
import Derived.Test.YtbkjhogfpcmcbaaDoorKc
import Derived.Test.YtbkjhogfpcmcbaaDoorKd
namespace Go.Proofs.YtbkjhogfpcmcbaaDoor
open Go Go.RowKit Zn
set_option linter.unusedVariables false
set_option linter.unusedSimpArgs false
variable {w w' : World}
theorem check_no {ms : List Mt} (h : checkB ms = false) : checkE ms = 200 := by unfold checkE; rw [h]; rfl
theorem rise_one {ms : List Mt} {k : Nat} {x : Mt} (h : ms[k]? = some x) (h0 : k = 0) : riseB (ms.take (k + 1)) = true := by
  subst h0
  cases ms with
  | nil => cases h
  | cons y l => rfl
set_option maxHeartbeats 4000000 in
theorem rcheck_any (a : Option Addr) (len cap : Nat) (ms : List Mt) (h : MsAt w a len ms) (hs : ∀ x ∈ ms, x.p.size ≤ 4194304) (hl : len ≤ 1000000) :
    Calls Tryd.prog 18 #[.slice a len cap] w fun e w' => e = .returned (.int .i64 (checkE ms)) ∧ Below w.heap.size w w' := by
  have hlen := h.len
  by_cases h1 : len < 1
  · have HE := Lib.hid (check_no (ms := ms) (by unfold checkB; rw [decide_eq_false (by omega)]; rfl))
    have q0 : decide ((len : Int) < 1) = true := by rw [decide_eq_true_iff]; omega
    clear h hs hlen h1
    go_enter Tryd.func18, Tryd.ntmps18
    go_wp2_with fail
    go_ret
    exact ⟨by rw [HE.out]; rfl, Below.refl _ _⟩
  have q0 : decide ((len : Int) < 1) = false := by rw [decide_eq_false_iff_not]; omega
  by_cases h40 : 40 < len
  · have HE := Lib.hid (check_no (ms := ms) (by unfold checkB; rw [decide_eq_false (by omega : ¬ ms.length ≤ 40), Bool.and_false]; rfl))
    have q1 : decide ((40 : Int) < (len : Int)) = true := by rw [decide_eq_true_iff]; omega
    clear h hs hlen h1 h40
    go_enter Tryd.func18, Tryd.ntmps18
    go_wp2_with fail
    go_ret
    exact ⟨by rw [HE.out]; rfl, Below.refl _ _⟩
  have q1 : decide ((40 : Int) < (len : Int)) = false := by rw [decide_eq_false_iff_not]; omega
  have hpos : 0 < len := by omega
  have hposi : (0 : Int) < (len : Int) := by omega
  obtain ⟨b, off, x0, rfl, hp, hbl, c0, _⟩ := h.get 0 (by omega)
  simp only [Nat.zero_mul, Nat.add_zero] at c0
  by_cases hr : x0.p = ⟨#[47]⟩
  rotate_left
  · have HE := Lib.hid (check_no (ms := ms) (by unfold checkB; rw [root_at hp, decide_eq_false hr, Bool.and_false]; rfl))
    have hx2 : (x0.p.toList == (⟨#[47]⟩ : ByteArray).toList) = false := by rw [ba_eq]; simpa using hr
    have hx3 : (x0.p.toList == [47]) = false := by
      rw [show ([47] : List UInt8) = (⟨#[47]⟩ : ByteArray).toList from by rw [ByteArray.toList_eq]]
      exact hx2
    clear h hs hlen h1 h40 hp hr hx2
    go_enter Tryd.func18, Tryd.ntmps18
    go_wp2_with fail
    go_ret
    exact ⟨by rw [HE.out]; rfl, Below.refl _ _⟩
  have HC := Lib.hid (show checkB ms = (!anyBad ms && riseB ms) by unfold checkB; rw [root_at hp, decide_eq_true hr, decide_eq_true (by omega), decide_eq_true (by omega)]; rfl)
  rw [hr] at c0
  have H := Lib.hid h
  have HS := Lib.hid hs
  have HL := Lib.hid hlen
  have hl40 : len ≤ 40 := by omega
  clear h hs hlen h1 h40 hp hr
  go_enter Tryd.func18, Tryd.ntmps18
  go_wp2_with fail
  go_loopw [3] (fun i wr => ∃ k : Nat, k ≤ len ∧ i = .int .i64 k ∧ anyBad (ms.take k) = false ∧ riseB (ms.take k) = true ∧ Below w.heap.size w wr) (fun i _ => len - (intOf i).toNat)
  case atStart => exact ⟨0, Nat.zero_le _, rfl, rfl, rfl, Below.refl _ _⟩
  case round =>
    obtain ⟨k, hk, rfl, hnb, hri, hb⟩ := hrel
    have HB := Lib.hid hb
    by_cases hlt : k < len
    · obtain ⟨b', off', x, e1, hp, hbl', d0, d1⟩ := H.out.get k hlt
      injection e1 with e1
      injection e1 with e11 e12
      subst e11 e12
      have HD0 := Lib.hid d0
      have HD1 := Lib.hid d1
      have d0 := (hb.cell (p := ⟨b, off + k * 2, none⟩) hbl).trans d0
      have hbw : b < wr.heap.size := Nat.lt_of_lt_of_le hbl hb.size
      have C := rvalid_any x.p wr (HS.out x (List.mem_of_getElem? hp))
      have HSN := Lib.hid (show anyBad (ms.take (k + 1)) = badB x by have := anyBad_snoc hp; rwa [hnb, Bool.false_or] at this)
      have HBAD := Lib.hid (show badB x = true → checkE ms = 200 from fun hx => check_no (by rw [HC.out, anyBad_at hp hx]; rfl))
      have HBX := Lib.hid (show badB x = (!validZ x.p.data.toList || decide (x.v < 1) || decide (999 < x.v)) from rfl)
      have HP := Lib.hid hp
      have HRI := Lib.hid hri
      clear hnb hri hp hb
      cases hv : validZ x.p.data.toList with
      | false =>
        rw [hv] at C
        have C := Lib.hid C
        have HE := Lib.hid (HBAD.out (by rw [HBX.out, hv]; rfl))
        clear hv c0
        go_wp2_with fail
        refine C.out.mono ?_
        rintro e w5 ⟨rfl, b5⟩
        have HB5 := Lib.hid (HB.out.trans (b5.mono HB.out.size))
        clear b5 C
        go_wp2_with fail
        go_ret
        exact ⟨by rw [HE.out]; rfl, HB5.out⟩
      | true =>
        rw [hv] at C
        have C := Lib.hid C
        have HBX := Lib.hid (show badB x = (decide (x.v < 1) || decide (999 < x.v)) by rw [HBX.out, hv]; rfl)
        clear hv c0
        go_wp2_with fail
        refine C.out.mono ?_
        rintro e w5 ⟨rfl, b5⟩
        have HB5 := Lib.hid (HB.out.trans (b5.mono HB.out.size))
        have d0 := (HB5.out.cell (p := ⟨b, off + k * 2, none⟩) hbl).trans HD0.out
        have d1 := (HB5.out.cell (p := ⟨b, off + k * 2 + 1, none⟩) hbl).trans HD1.out
        have hbw5 : b < w5.heap.size := Nat.lt_of_lt_of_le hbl HB5.out.size
        clear b5 C
        cases v1 : decide (x.v < 1) with
        | true =>
          have HE := Lib.hid (HBAD.out (by rw [HBX.out, v1]; rfl))
          go_wp2_with fail
          go_ret
          exact ⟨by rw [HE.out]; rfl, HB5.out⟩
        | false =>
          cases v2 : decide (999 < x.v) with
          | true =>
            have HE := Lib.hid (HBAD.out (by rw [HBX.out, v2, Bool.or_true]))
            go_wp2_with fail
            go_ret
            exact ⟨by rw [HE.out]; rfl, HB5.out⟩
          | false =>
            have HN2 := Lib.hid (show anyBad (ms.take (k + 1)) = false by rw [HSN.out, HBX.out, v1, v2]; rfl)
            go_upto_region 8 with (fail)
            by_cases hk0 : k = 0
            · have HR2 := Lib.hid (rise_one HP.out hk0)
              have q3 : decide ((0 : Int) < (k : Int)) = false := by rw [decide_eq_false_iff_not]; omega
              have q5 : ¬ 0 < k := by omega
              clear hk0
              go_quiet (fail)
              go_wp2_with fail
              go_roundw
              case rel => exact ⟨k + 1, by omega, by go_num, HN2.out, HR2.out, Below.drewN HB5.out nq⟩
              case measure => simp [intOf]; omega
            · obtain ⟨j, hj⟩ : ∃ j, k = j + 1 := ⟨k - 1, by omega⟩
              obtain ⟨b', off', y, e1, hpy, _, f0, _⟩ := H.out.get j (by omega)
              injection e1 with e1
              injection e1 with e11 e12
              subst e11 e12
              have f0 := (HB5.out.cell (p := ⟨b, off + j * 2, none⟩) hbl).trans f0
              have HT := Lib.hid (show riseB (ms.take (k + 1)) = !leB x.p y.p by
                have hp := HP.out
                have hri := HRI.out
                rw [hj] at hp hri ⊢
                have := rise_take hpy hp
                rwa [hri, Bool.true_and] at this)
              have q3 : decide ((0 : Int) < (k : Int)) = true := by rw [decide_eq_true_iff]; omega
              have q4 : (0 : Int) < (k : Int) := by omega
              have hw1 : IntKind.i64.wrap ((k : Int) - 1) = (j : Int) := by rw [IntKind.wrap_i64]; omega
              have hkk : (k : Int) - 1 = (j : Int) := by omega
              have q5 : 0 < k := by omega
              clear hpy hj hk0
              cases hle : leB x.p y.p with
              | true =>
                have HE := Lib.hid (check_no (ms := ms) (by rw [HC.out, rise_no (k := k + 1) (by rw [HT.out, hle]; rfl), Bool.and_false]))
                cases hbs : Op.bytesLess x.p.toList y.p.toList with
                | true =>
                  clear hle
                  go_quiet (fail)
                  go_wp2_with fail
                  go_ret
                  exact ⟨by rw [HE.out]; rfl, Below.drewN HB5.out nq⟩
                | false =>
                  have heq : (x.p.toList == y.p.toList) = true := by
                    rw [ba_eq]
                    unfold leB at hle
                    rw [hbs] at hle
                    simpa using hle
                  clear hle
                  go_quiet (fail)
                  go_wp2_with fail
                  go_ret
                  exact ⟨by rw [HE.out]; rfl, Below.drewN HB5.out nq⟩
              | false =>
                have HR2 := Lib.hid (show riseB (ms.take (k + 1)) = true by rw [HT.out, hle]; rfl)
                have hbs : Op.bytesLess x.p.toList y.p.toList = false := by unfold leB at hle; simp at hle; exact hle.1
                have heq : (x.p.toList == y.p.toList) = false := by rw [ba_eq]; unfold leB at hle; simp at hle; simpa using hle.2
                clear hle
                go_quiet (fail)
                go_wp2_with fail
                go_roundw
                case rel => exact ⟨k + 1, by omega, by go_num, HN2.out, HR2.out, Below.drewN HB5.out nq⟩
                case measure => simp [intOf]; omega
    · obtain rfl : k = len := by omega
      have htk : ms.take k = ms := List.take_of_length_le (by rw [HL.out]; exact Nat.le_refl _)
      rw [htk] at hnb hri
      have HE := Lib.hid (show checkE ms = 0 by unfold checkE; rw [HC.out, hnb, hri]; rfl)
      clear hb hnb hri htk
      go_wp2_with fail
      go_ret
      exact ⟨by rw [HE.out]; rfl, HB.out⟩
end Go.Proofs.YtbkjhogfpcmcbaaDoor
