/- zname: the document's letter, name, path, Names. Conditions: the text has at most 4194304 bytes. -/
import Derived.Test.YtbkjhogfpcmcbaaDoorZc
namespace Go.Proofs.YtbkjhogfpcmcbaaDoor
open Go Go.RowKit Zn
set_option linter.unusedVariables false
set_option linter.unusedSimpArgs false
variable {w w' : World}

theorem rletter_any (c : Nat) (w : World) : Calls Tryd.prog 71 #[.int .u8 c] w fun e w' => e = .returned (.bool (letN c)) ∧ w = w' := by
  rw [← letZ_nat]
  go_enter Tryd.func71, Tryd.ntmps71
  go_wp2
  all_goals (go_ret; refine ⟨ret_bool ?_, rfl⟩; unfold letZ; rw [Bool.eq_iff_iff]; simp; try omega)
theorem name_lets_no {l : Nm} (h : lets l = false) : nameB l = false := by unfold nameB; rw [h]; rfl
set_option maxHeartbeats 1000000 in
theorem rname_any (s : ByteArray) (w : World) (hs : s.size ≤ 9223372036854775807) : Calls Tryd.prog 56 #[.string s] w fun e w' => e = .returned (.bool (nameB s.data.toList)) ∧ w = w' := by
  have hsl : s.data.toList.length = s.size := (Lib.size_eq s).symm
  have HSL := Lib.hid hsl
  clear hsl
  go_enter Tryd.func56, Tryd.ntmps56
  go_wp2_with fail
  go_loop [3] (fun i => ∃ k : Nat, k ≤ s.size ∧ i = .int .i64 k ∧ lets (s.data.toList.take k) = true) (fun i => s.size - (intOf i).toNat)
  case atStart => exact ⟨0, Nat.zero_le _, rfl, rfl⟩
  case round =>
    obtain ⟨k, hk, rfl, hl⟩ := hrel
    have HL := Lib.hid hl
    clear hl
    by_cases hlt : k < s.size
    · have HB := Lib.hid (at_byte s k hlt)
      obtain ⟨c, hc⟩ : ∃ c, c = s[k]'hlt := ⟨_, rfl⟩
      have C1 := Lib.hid (fun w1 => rletter_any c.toNat w1)
      rw [← hc] at HB
      have hc' : s[k]'hlt = c := hc.symm
      clear hc
      cases hz : letN c.toNat
      · rw [hz] at C1
        have HN := Lib.hid (name_lets_no (lets_no HB.out hz))
        clear hz
        go_wp2_with fail
        refine (C1.out _).mono ?_
        rintro e w2 ⟨rfl, rfl⟩
        go_wp2_with fail
        go_ret
        exact ⟨ret_bool HN.out.symm, rfl⟩
      · rw [hz] at C1
        have HZ := Lib.hid hz
        clear hz
        go_wp2_with fail
        refine (C1.out _).mono ?_
        rintro e w2 ⟨rfl, rfl⟩
        go_wp2_with fail
        go_round
        case rel => exact ⟨k + 1, by omega, by go_num, by rw [List.take_add_one, HB.out]; exact (lets_snoc _ _).trans (by rw [HL.out, HZ.out]; rfl)⟩
        case measure => simp [intOf]; omega
    · obtain rfl : k = s.size := by omega
      have HE := Lib.hid (show nameB s.data.toList = (decide (1 ≤ s.size) && decide (s.size ≤ 60) && !(s.data.toList == [46]) && !(s.data.toList == [46, 46])) by
        have := HL.out
        rw [List.take_of_length_le (by rw [HSL.out]; exact Nat.le_refl _)] at this
        unfold nameB; rw [this, HSL.out]; rfl)
      go_wp2_with fail
      · have h4 : s.toList = [46] := by assumption
        go_ret; refine ⟨ret_bool ?_, rfl⟩; rw [HE.out]; simp only [← Lib.toList_data]; rw [h4]; simp
      · have h4 : (s.toList == [46]) = false := by rw [beq_eq_false_iff_ne]; assumption
        have h1 : 1 ≤ (s.size : Int) := by assumption
        have h2 : (s.size : Int) ≤ 60 := by assumption
        have h1' : decide (1 ≤ s.size) = true := by rw [decide_eq_true_eq]; omega
        have h2' : decide (s.size ≤ 60) = true := by rw [decide_eq_true_eq]; omega
        go_ret; refine ⟨ret_bool ?_, rfl⟩; rw [HE.out]; simp only [← Lib.toList_data]; rw [h4, h1', h2']; simp
      · have h2 : 60 < (s.size : Int) := by assumption
        have h2' : decide (s.size ≤ 60) = false := by rw [decide_eq_false_iff_not]; omega
        go_ret; refine ⟨ret_bool ?_, rfl⟩; rw [HE.out, h2']; simp
      · have h2 : (s.size : Int) < 1 := by assumption
        have h2' : decide (1 ≤ s.size) = false := by rw [decide_eq_false_iff_not]; omega
        go_ret; refine ⟨ret_bool ?_, rfl⟩; rw [HE.out, h2']; simp
theorem ls_of {l : Nm} {L : List Nm} (h : namesO l = some L) : lsOf l = L := by unfold lsOf; rw [h]; rfl
end Go.Proofs.YtbkjhogfpcmcbaaDoor
