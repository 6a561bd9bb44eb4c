/- The walks of ZnameRises, ZnameDeep. Conditions: the text has at most 1048576 bytes; the library's variable holds a number. -/
import Derived.Test.YtegpoiepeaofgaaDoorZf
namespace Go.Proofs.YtegpoiepeaofgaaDoor
open Go Go.RowKit Zn
set_option linter.unusedVariables false
set_option linter.unusedSimpArgs false
variable {w w' : World}

theorem num_less {l : Nm} {n m : Int} (h1 : numOk l n = true) (h2 : numOk l m = true) : Go.Op.bytesLess (numZ l n) (numZ l m) = decide (n < m) := by
  unfold numZ
  rw [if_pos h1, if_pos h2, less_app]
  unfold numOk at h1 h2
  simp only [Bool.and_eq_true, decide_eq_true_eq] at h1 h2
  obtain ⟨⟨⟨_, a0⟩, a1⟩, _⟩ := h1
  obtain ⟨⟨⟨_, b0⟩, b1⟩, _⟩ := h2
  rw [less_ten 10 _ _ (by omega) (by omega)]
  congr 1; apply propext; omega
theorem znameRises_walk (W : World) (hm : Mx W) (s : ByteArray) (hw : s.size ≤ maxLen) (hs : s.size ≤ 1048576) (n : Int) (hn : (Lit.int .i64 n).wf = true) (m : Int) (hmm : (Lit.int .i64 m).wf = true) :
    Calls Tryd.prog 3 #[.string s, .int .i64 n, .int .i64 m] W fun e W' => e = .returned (.bool true) ∧ Below W.heap.size W W' := by
  have C1 := number_any s n W (by omega) hm
  have C2 := fun w1 (h : Mx w1) => number_any s m w1 (by omega) h
  unfold Numbered at C1 C2
  have HM := Lib.hid hm
  have HL := Lib.hid (@num_less s.data.toList n m)
  obtain ⟨A, hA⟩ : ∃ A, A = numZ s.data.toList n := ⟨_, rfl⟩
  obtain ⟨B, hB⟩ : ∃ B, B = numZ s.data.toList m := ⟨_, rfl⟩
  rw [← hA] at C1 HL
  rw [← hB] at C2 HL
  clear hm hn hmm hw hA hB
  cases h1 : numOk s.data.toList n
  · rw [h1] at C1
    have C1 := Lib.hid C1
    have C2 := Lib.hid C2
    clear h1 HL
    go_enter Tryd.func3, Tryd.ntmps3
    go_wp2_with fail
    refine C1.out.mono ?_
    rintro e w1 ⟨rfl, b1⟩
    have B1 := Lib.hid b1
    clear b1
    go_wp2_with fail
    refine (C2.out _ (HM.out.below B1.out)).mono ?_
    rintro e w2 ⟨rfl, b2⟩
    have B2 := Lib.hid (B1.out.trans (b2.mono B1.out.size))
    clear b2
    go_wp2_with fail
    refine (alive_any _ (HM.out.below B2.out)).mono ?_
    rintro e w3 ⟨rfl, b3⟩
    have B3 := Lib.hid (B2.out.trans (b3.mono B2.out.size))
    clear b3
    go_wp2_with fail
    go_ret
    exact ⟨rfl, B3.out⟩
  cases h2 : numOk s.data.toList m
  · rw [h1] at C1
    rw [h2] at C2
    have C1 := Lib.hid C1
    have C2 := Lib.hid C2
    clear h1 h2 HL
    go_enter Tryd.func3, Tryd.ntmps3
    go_wp2_with fail
    refine C1.out.mono ?_
    rintro e w1 ⟨rfl, b1⟩
    have B1 := Lib.hid b1
    clear b1
    go_wp2_with fail
    refine (C2.out _ (HM.out.below B1.out)).mono ?_
    rintro e w2 ⟨rfl, b2⟩
    have B2 := Lib.hid (B1.out.trans (b2.mono B1.out.size))
    clear b2
    go_wp2_with fail
    refine (alive_any _ (HM.out.below B2.out)).mono ?_
    rintro e w3 ⟨rfl, b3⟩
    have B3 := Lib.hid (B2.out.trans (b3.mono B2.out.size))
    clear b3
    go_wp2_with fail
    go_ret
    exact ⟨rfl, B3.out⟩
  · have hl := HL.out h1 h2
    rw [h1] at C1
    rw [h2] at C2
    have C1 := Lib.hid C1
    have C2 := Lib.hid C2
    obtain ⟨b, hb⟩ : ∃ b, b = decide (n < m) := ⟨_, rfl⟩
    rw [← hb] at hl
    have HLL := Lib.hid hl
    have HBB := Lib.hid hb
    clear h1 h2 HL hl hb
    go_enter Tryd.func3, Tryd.ntmps3
    go_wp2_with fail
    refine C1.out.mono ?_
    rintro e w1 ⟨rfl, b1⟩
    have B1 := Lib.hid b1
    clear b1
    go_wp2_with fail
    refine (C2.out _ (HM.out.below B1.out)).mono ?_
    rintro e w2 ⟨rfl, b2⟩
    have B2 := Lib.hid (B1.out.trans (b2.mono B1.out.size))
    clear b2
    go_wp2_with fail
    refine (alive_any _ (HM.out.below B2.out)).mono ?_
    rintro e w3 ⟨rfl, b3⟩
    have B3 := Lib.hid (B2.out.trans (b3.mono B2.out.size))
    clear b3
    go_wp2_with fail
    go_goals
    go_ret
    exact ⟨ret_bool (by simp [Lib.toList_data, HLL.out, HBB.out]), B3.out⟩
end Go.Proofs.YtegpoiepeaofgaaDoor
