/- zname: Valid, Depth, Base, Parent. Conditions: the path has at most 4194304 bytes; the library's variable holds a number. -/
import Derived.Test.YtbkjhogfpcmcbaaDoorZb
namespace Go.Proofs.YtbkjhogfpcmcbaaDoor
open Go Go.RowKit Zn
set_option linter.unusedVariables false
set_option linter.unusedSimpArgs false
variable {w w' : World}

theorem ls_len (l : Nm) : (lsOf l).length ≤ 8 := by
  unfold lsOf
  cases h : namesO l with
  | none => simp
  | some L => exact ((names_iff l L).1 h).2.1
theorem ls_names (l : Nm) : (lsOf l).all nameB = true := by
  unfold lsOf
  cases h : namesO l with
  | none => rfl
  | some L => exact ((names_iff l L).1 h).2.2
theorem valid_any (s : ByteArray) (w : World) (hs : s.size ≤ 4194304) (hm : Mx w) : Calls Tryd.prog 44 #[.string s] w fun e w' => e = .returned (.bool (validZ s.data.toList)) ∧ Below w.heap.size w w' := by
  have C1 := Lib.hid (names_any s w hs hm)
  clear hm
  go_enter Tryd.func44, Tryd.ntmps44
  go_wp2_with fail
  refine C1.out.mono ?_
  rintro e w1 ⟨⟨ad, c, rfl, hc, hS⟩, b1⟩
  have B1 := Lib.hid b1
  clear hS b1
  go_wp2_with fail
  go_ret
  exact ⟨rfl, B1.out⟩
end Go.Proofs.YtbkjhogfpcmcbaaDoor
