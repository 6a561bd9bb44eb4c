/- zname: the document's letter, name, path, Names. Conditions: the text has at most 4194304 bytes. -/
import Derived.Test.YtegpoiepeaofgaaDoorZg
namespace Go.Proofs.YtegpoiepeaofgaaDoor
open Go Go.RowKit Zn
set_option linter.unusedVariables false
set_option linter.unusedSimpArgs false
variable {w w' : World}

theorem rletter_any (c : Nat) (w : World) : Calls Tryd.prog 41 #[.int .u8 c] w fun e w' => e = .returned (.bool (letN c)) ∧ w = w' := by
  rw [← letZ_nat]
  go_enter Tryd.func41, Tryd.ntmps41
  go_wp2
  all_goals (go_ret; refine ⟨ret_bool ?_, rfl⟩; unfold letZ; rw [Bool.eq_iff_iff]; simp; try omega)
theorem name_lets_no {l : Nm} (h : lets l = false) : nameB l = false := by unfold nameB; rw [h]; rfl
set_option maxHeartbeats 1000000 in
theorem rname_any (s : ByteArray) (w : World) (hs : s.size ≤ 9223372036854775807) : Calls Tryd.prog 32 #[.string s] w fun e w' => e = .returned (.bool (nameB s.data.toList)) ∧ w = w' := by
  have hsl : s.data.toList.length = s.size := (Lib.size_eq s).symm
  have HSL := Lib.hid hsl
  clear hsl
  go_enter Tryd.func32, Tryd.ntmps32
  go_wp2_with fail
  go_loop [3] (fun i => ∃ k : Nat, k ≤ s.size ∧ i = .int .i64 k ∧ lets (s.data.toList.take k) = true) (fun i => s.size - (intOf i).toNat)
  case atStart => exact ⟨0, Nat.zero_le _, rfl, rfl⟩
  case round =>
    obtain ⟨k, hk, rfl, hl⟩ := hrel
    have HL := Lib.hid hl
    clear hl
    by_cases hlt : k < s.size
    · have HB := Lib.hid (at_byte s k hlt)
      obtain ⟨c, hc⟩ : ∃ c, c = s[k]'hlt := ⟨_, rfl⟩
      have C1 := Lib.hid (fun w1 => rletter_any c.toNat w1)
      rw [← hc] at HB
      have hc' : s[k]'hlt = c := hc.symm
      clear hc
      cases hz : letN c.toNat
      · rw [hz] at C1
        have HN := Lib.hid (name_lets_no (lets_no HB.out hz))
        clear hz
        go_wp2_with fail
        refine (C1.out _).mono ?_
        rintro e w2 ⟨rfl, rfl⟩
        go_wp2_with fail
        go_ret
        exact ⟨ret_bool HN.out.symm, rfl⟩
      · rw [hz] at C1
        have HZ := Lib.hid hz
        clear hz
        go_wp2_with fail
        refine (C1.out _).mono ?_
        rintro e w2 ⟨rfl, rfl⟩
        go_wp2_with fail
        go_round
        case rel => exact ⟨k + 1, by omega, by go_num, by rw [List.take_add_one, HB.out]; exact (lets_snoc _ _).trans (by rw [HL.out, HZ.out]; rfl)⟩
        case measure => simp [intOf]; omega
    · obtain rfl : k = s.size := by omega
      have HE := Lib.hid (show nameB s.data.toList = (decide (1 ≤ s.size) && decide (s.size ≤ 60) && !(s.data.toList == [46]) && !(s.data.toList == [46, 46])) by
        have := HL.out
        rw [List.take_of_length_le (by rw [HSL.out]; exact Nat.le_refl _)] at this
        unfold nameB; rw [this, HSL.out]; rfl)
      go_wp2_with fail
      · have h4 : s.toList = [46] := by assumption
        go_ret; refine ⟨ret_bool ?_, rfl⟩; rw [HE.out]; simp only [← Lib.toList_data]; rw [h4]; simp
      · have h4 : (s.toList == [46]) = false := by rw [beq_eq_false_iff_ne]; assumption
        have h1 : 1 ≤ (s.size : Int) := by assumption
        have h2 : (s.size : Int) ≤ 60 := by assumption
        have h1' : decide (1 ≤ s.size) = true := by rw [decide_eq_true_eq]; omega
        have h2' : decide (s.size ≤ 60) = true := by rw [decide_eq_true_eq]; omega
        go_ret; refine ⟨ret_bool ?_, rfl⟩; rw [HE.out]; simp only [← Lib.toList_data]; rw [h4, h1', h2']; simp
      · have h2 : 60 < (s.size : Int) := by assumption
        have h2' : decide (s.size ≤ 60) = false := by rw [decide_eq_false_iff_not]; omega
        go_ret; refine ⟨ret_bool ?_, rfl⟩; rw [HE.out, h2']; simp
      · have h2 : (s.size : Int) < 1 := by assumption
        have h2' : decide (1 ≤ s.size) = false := by rw [decide_eq_false_iff_not]; omega
        go_ret; refine ⟨ret_bool ?_, rfl⟩; rw [HE.out, h2']; simp
set_option maxHeartbeats 1000000 in
theorem rpath_any (ad : Option Addr) (c : Nat) (L : List Nm) (w : World) (hS : Strs w ad L) (h8 : L.length ≤ 8) (hn : L.all nameB = true) :
    Calls Tryd.prog 27 #[.slice ad L.length c] w fun e w' => e = .returned (.string ⟨(pathOf L).toArray⟩) ∧ w = w' := by
  have HS := Lib.hid hS
  have HN := Lib.hid hn
  clear hS hn
  by_cases h0 : L = []
  · subst h0
    go_enter Tryd.func27, Tryd.ntmps27
    go_wp2_with fail
    go_ret
    exact ⟨rfl, rfl⟩
  · have hne : ((L.length : Int) == 0) = false := by simp; exact h0
    have HP := Lib.hid (path_of_ne h0)
    clear h0
    go_enter Tryd.func27, Tryd.ntmps27
    go_wp2_with fail
    go_loop [3, 4] (fun v i => ∃ (k : Nat) (p : ByteArray), k ≤ L.length ∧ i = .int .i64 k ∧ v = .string p ∧ p.data.toList = flat (L.take k)) (fun _ i => L.length - (intOf i).toNat)
    case atStart => exact ⟨0, _, Nat.zero_le _, rfl, rfl, rfl⟩
    case round =>
      obtain ⟨k, p, hk, rfl, rfl, hp⟩ := hrel
      have hall : (L.take k).all nameB = true := List.all_eq_true.2 fun x hx => List.all_eq_true.1 HN.out x (List.mem_of_mem_take hx)
      have hfl := flat_len (L.take k) hall
      have hps : p.size ≤ 488 := by
        rw [Lib.size_eq, hp]
        have : (L.take k).length ≤ 8 := by rw [List.length_take]; omega
        omega
      have HPP := Lib.hid hp
      clear hp hall hfl
      by_cases hlt : k < L.length
      · obtain ⟨x, hx⟩ : ∃ x, L[k]? = some x := ⟨_, List.getElem?_eq_getElem hlt⟩
        obtain ⟨g, off, rfl, hg, d0⟩ := HS.out.get k x hx
        have hxl := (name_len (List.all_eq_true.1 HN.out x (List.mem_of_getElem? hx))).2
        have HX := Lib.hid (show flat (L.take (k + 1)) = flat (L.take k) ++ 47 :: x by rw [List.take_add_one, hx, flat_app]; simp [flat])
        clear hx
        go_wp2_with fail
        go_round
        case rel => exact ⟨k + 1, _, by omega, by go_num, rfl, by rw [HX.out, cat_mk, cat_mk, HPP.out]; simp⟩
        case measure => simp [intOf]; omega
      · obtain rfl : k = L.length := by omega
        have HE := Lib.hid (show p.data.toList = pathOf L by rw [HPP.out, List.take_length, HP.out])
        go_wp2_with fail
        go_ret
        exact ⟨congrArg (fun l : Nm => Ending.returned (Value.string ⟨l.toArray⟩)) HE.out, rfl⟩
end Go.Proofs.YtegpoiepeaofgaaDoor
