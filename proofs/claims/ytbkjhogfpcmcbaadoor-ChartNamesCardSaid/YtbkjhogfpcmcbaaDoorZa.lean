/- zname: letter, name: what they compute. Conditions: none. -/
import Derived.Test.YtbkjhogfpcmcbaaDoorZnTen
import Derived.Test.YtbkjhogfpcmcbaaDoorShelf
import Derived.Test.YtbkjhogfpcmcbaaDoorRow
import Derived.Test.YtbkjhogfpcmcbaaDoorQB
import Derived.Laws.RangeAny
import Derived.Outline
namespace Go.Proofs.YtbkjhogfpcmcbaaDoor
open Go Go.RowKit Zn
set_option linter.unusedVariables false
set_option linter.unusedSimpArgs false

def letZ (c : Int) : Bool := decide ((97 ≤ c ∧ c ≤ 122) ∨ (65 ≤ c ∧ c ≤ 90) ∨ (48 ≤ c ∧ c ≤ 57) ∨ c = 46 ∨ c = 45 ∨ c = 95)
theorem letZ_nat (n : Nat) : letZ n = letN n := by
  unfold letZ letN; congr 1; apply propext; omega
theorem ret_bool {a b : Bool} (h : a = b) : Ending.returned (.bool a) = Ending.returned (.bool b) := by rw [h]
theorem letter_any (c : Int) (w : World) : Calls Tryd.prog 91 #[.int .i32 c] w fun e w' => e = .returned (.bool (letZ c)) ∧ w = w' := by
  go_enter Tryd.func91, Tryd.ntmps91
  go_wp2
  all_goals (go_ret; refine ⟨ret_bool ?_, rfl⟩; unfold letZ; rw [Bool.eq_iff_iff]; simp; try omega)
theorem width_pos (s : ByteArray) (pos : Nat) (h : pos < s.size) : 1 ≤ (Utf8.decode s pos).2 := by
  by_cases ha : (s[pos]'h).toNat < 128
  · rw [decode_ascii s pos h ha]
    exact Nat.le_refl _
  · exact (decode_high s pos h (by omega)).2
theorem lets_snoc (l : Nm) (c : UInt8) : lets (l ++ [c]) = (lets l && letN c.toNat) := by simp [lets]
theorem lets_no {l : Nm} {k : Nat} {c : UInt8} (hk : l[k]? = some c) (h : letN c.toNat = false) : lets l = false := by
  unfold lets; rw [List.all_eq_false]; exact ⟨c, List.mem_of_getElem? hk, by simp [h]⟩
theorem letN_high {n : Nat} (h : 128 ≤ n) : letN n = false := by unfold letN; simp; omega
theorem name_of (l : Nm) (h1 : ¬ l = []) (h2 : (l.length : Int) ≤ 60) (h3 : ¬ l = [46]) (h4 : (l == [46, 46]) = false) : nameB l = lets l := by
  unfold nameB
  have a : 1 ≤ l.length := by cases l with | nil => exact absurd rfl h1 | cons _ _ => simp
  have b : l.length ≤ 60 := by omega
  have c : (l == [46]) = false := by simpa using h3
  rw [c, h4]; simp [a, b]
theorem at_byte (s : ByteArray) (pos : Nat) (h : pos < s.size) : s.data.toList[pos]? = some (s[pos]'h) := by
  rw [Array.getElem?_toList]; exact Array.getElem?_eq_getElem h
theorem isEmpty_no {l : Nm} (h : ¬ l = []) : l.isEmpty = false := by cases l with | nil => exact absurd rfl h | cons _ _ => rfl
theorem name_any (s : ByteArray) (w : World) (hs : s.size ≤ 9223372036854775807) : Calls Tryd.prog 79 #[.string s] w fun e w' => e = .returned (.bool (nameB s.data.toList)) ∧ Below w.heap.size w w' := by
  have hsl : s.data.toList.length = s.size := (Lib.size_eq s).symm
  have HSL := Lib.hid hsl
  clear hsl
  by_cases h0 : s.data.toList = []
  · have HE := Lib.hid (show nameB s.data.toList = false by rw [h0]; rfl)
    rw [← Lib.toList_data] at h0
    have h0' : s.toList.isEmpty = true := by rw [h0]; rfl
    clear h0
    go_enter Tryd.func79, Tryd.ntmps79
    go_wp2_with fail
    all_goals (go_ret; exact ⟨ret_bool HE.out.symm, Below.refl _ _⟩)
  by_cases h1 : (s.size : Int) ≤ 60
  rotate_left
  · have HE := Lib.hid (show nameB s.data.toList = false by
      unfold nameB
      have : decide (s.data.toList.length ≤ 60) = false := by rw [HSL.out]; simp; omega
      rw [this]; simp)
    have h0' := isEmpty_no h0
    have h1' : 60 < (s.size : Int) := by omega
    rw [← Lib.toList_data] at h0'
    clear h0 h1
    go_enter Tryd.func79, Tryd.ntmps79
    go_wp2_with fail
    all_goals (go_ret; exact ⟨ret_bool HE.out.symm, Below.refl _ _⟩)
  by_cases h2 : s.data.toList = [46]
  · have HE := Lib.hid (show nameB s.data.toList = false by rw [h2]; rfl)
    have h0' := isEmpty_no h0
    have h2' : (s.toList == [46]) = true := by rw [Lib.toList_data, h2]; rfl
    have h1' : decide (60 < (s.size : Int)) = false := by simp; omega
    rw [← Lib.toList_data] at h0'
    clear h0 h2 h1
    go_enter Tryd.func79, Tryd.ntmps79
    go_wp2_with fail
    all_goals (go_ret; exact ⟨ret_bool HE.out.symm, Below.refl _ _⟩)
  by_cases h3 : s.data.toList = [46, 46]
  · have HE := Lib.hid (show nameB s.data.toList = false by rw [h3]; rfl)
    have h0' := isEmpty_no h0
    have h2' : (s.toList == [46]) = false := by rw [Lib.toList_data, h3]; rfl
    have h3' : (s.toList == [46, 46]) = true := by rw [Lib.toList_data, h3]; rfl
    have h1' : decide (60 < (s.size : Int)) = false := by simp; omega
    rw [← Lib.toList_data] at h0'
    clear h0 h2 h1 h3
    go_enter Tryd.func79, Tryd.ntmps79
    go_wp2_with fail
    all_goals (go_ret; exact ⟨ret_bool HE.out.symm, Below.refl _ _⟩)
  · have HN := Lib.hid (name_of s.data.toList h0 (by rw [HSL.out]; exact h1) h2 (by simpa using h3))
    have h0' := isEmpty_no h0
    have h2' : (s.toList == [46]) = false := by rw [Lib.toList_data]; simpa using h2
    have h3' : (s.toList == [46, 46]) = false := by rw [Lib.toList_data]; simpa using h3
    have h1' : decide (60 < (s.size : Int)) = false := by simp; omega
    rw [← Lib.toList_data] at h0'
    clear h0 h2 h1 h3
    go_enter Tryd.func79, Tryd.ntmps79
    go_wp2_with fail
    go_loopw [4] (fun _ wr => ∃ pos, pos ≤ s.size ∧ wr = w.iter s pos ∧ lets (s.data.toList.take pos) = true) (fun _ wr => s.size - wr.iterPos w.heap.size)
    case atStart => exact ⟨0, Nat.zero_le _, rfl, rfl⟩
    case round =>
      obtain ⟨pos, hp, rfl, hl⟩ := hrel
      have HLL := Lib.hid hl
      clear hl
      by_cases hlt : pos < s.size
      · have HB := Lib.hid (at_byte s pos hlt)
        by_cases ha : (s[pos]'hlt).toNat < 128
        · have hnx : ∀ ty, (Instr.next (.pointer (some ⟨w.heap.size, 0, none⟩)) true ty).run Tryd.prog (w.iter s pos) = _ := fun ty => run_next_ascii w s pos ty hlt ha
          obtain ⟨c, hc⟩ : ∃ c, c = s[pos]'hlt := ⟨_, rfl⟩
          rw [← hc] at hnx HB ha
          clear hc
          have C1 := Lib.hid (letter_any (c.toNat : Int) (w.iter s (pos + 1)))
          cases hz : letN c.toNat
          · have HZ := Lib.hid hz
            rw [letZ_nat, hz] at C1
            clear hz
            go_wp2_with fail
            refine C1.out.mono ?_
            rintro e w2 ⟨rfl, rfl⟩
            go_wp2
            go_ret
            exact ⟨ret_bool (by rw [HN.out, lets_no HB.out HZ.out]), (Below.refl _ _).alloc (Nat.le_refl _) _⟩
          · have HZ := Lib.hid hz
            rw [letZ_nat, hz] at C1
            clear hz
            go_wp2_with fail
            refine C1.out.mono ?_
            rintro e w2 ⟨rfl, rfl⟩
            go_wp2
            go_roundw
            case rel => exact ⟨pos + 1, hlt, rfl, by rw [List.take_add_one, HB.out]; exact (lets_snoc _ _).trans (by rw [HLL.out, HZ.out]; rfl)⟩
            case measure => simp; omega
        · have hnx : ∀ ty, (Instr.next (.pointer (some ⟨w.heap.size, 0, none⟩)) true ty).run Tryd.prog (w.iter s pos) = _ := fun ty => run_next_any w s pos ty hlt
          have hd := (decode_high s pos hlt (by omega)).1
          obtain ⟨d, hde⟩ : ∃ d, d = Utf8.decode s pos := ⟨_, rfl⟩
          rw [← hde] at hnx hd
          have C1 := Lib.hid (letter_any (d.1 : Int) (w.iter s (pos + d.2)))
          rw [letZ_nat, letN_high hd] at C1
          have HZ := Lib.hid (letN_high (n := (s[pos]'hlt).toNat) (by omega))
          clear hde hd ha
          go_wp2_with fail
          refine C1.out.mono ?_
          rintro e w2 ⟨rfl, rfl⟩
          go_wp2
          go_ret
          exact ⟨ret_bool (by rw [HN.out, lets_no HB.out HZ.out]), (Below.refl _ _).alloc (Nat.le_refl _) _⟩
      · have hnx : ∀ ty, (Instr.next (.pointer (some ⟨w.heap.size, 0, none⟩)) true ty).run Tryd.prog (w.iter s pos) = _ := fun ty => run_next_end w s pos ty hlt
        have HE := Lib.hid (show lets s.data.toList = true by have := HLL.out; rwa [List.take_of_length_le (by rw [HSL.out]; omega)] at this)
        go_wp2
        go_ret
        exact ⟨ret_bool (by rw [HN.out, HE.out]), (Below.refl _ _).alloc (Nat.le_refl _) _⟩
end Go.Proofs.YtbkjhogfpcmcbaaDoor
