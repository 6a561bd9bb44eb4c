/- zname: the document's Valid, Depth, Base, Parent, Under. Conditions: the texts have at most 4194304 bytes. -/
import Derived.Test.YtbkjhogfpcmcbaaDoorZi
namespace Go.Proofs.YtbkjhogfpcmcbaaDoor
open Go Go.RowKit Zn
set_option linter.unusedVariables false
set_option linter.unusedSimpArgs false
variable {w w' : World}

theorem valid_none {l : Nm} (h : validZ l = false) : namesO l = none := by
  unfold validZ at h; cases hn : namesO l with
  | none => rfl
  | some L => rw [hn] at h; cases h
theorem valid_some {l : Nm} (h : validZ l = true) : ∃ L, namesO l = some L := by
  unfold validZ at h; exact Option.isSome_iff_exists.1 h
theorem rvalid_any (s : ByteArray) (w : World) (hs : s.size ≤ 4194304) : Calls Tryd.prog 32 #[.string s] w fun e w' => e = .returned (.bool (validZ s.data.toList)) ∧ Below w.heap.size w w' := by
  have C1 := Lib.hid (rnames_any s w hs)
  go_enter Tryd.func32, Tryd.ntmps32
  go_wp2_with fail
  refine C1.out.mono ?_
  rintro e w1 ⟨⟨ad, n, c, rfl, _⟩, b1⟩
  have B1 := Lib.hid b1
  clear b1
  go_wp2_with fail
  go_ret
  exact ⟨rfl, B1.out⟩
end Go.Proofs.YtbkjhogfpcmcbaaDoor
