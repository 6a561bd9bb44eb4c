/- chart: ChartViews' walk. Conditions: the library's variable holds a number. -/
import Derived.Test.YtbkjhogfpcmcbaaDoorKk
import Derived.Test.YtbkjhogfpcmcbaaDoorKl
namespace Go.Proofs.YtbkjhogfpcmcbaaDoor
open Go Go.RowKit Zn
set_option linter.unusedVariables false
set_option linter.unusedSimpArgs false
variable {w w' : World}
theorem chartViews_walk (W : World) (hm : Mx W) (v : Int) (_wv : (Lit.int .i64 v).wf = true) (self : Int) (_ws : (Lit.int .i64 self).wf = true) (m : Int) (_wm : (Lit.int .i64 m).wf = true) :
    Calls Tryd.prog 8 #[.int .i64 v, .int .i64 self, .int .i64 m] W fun e W' => e = .returned (.bool true) ∧ Below W.heap.size W W' := by
  have V := Lib.hid (view_any v self m W)
  have R := Lib.hid (rnext_any v self m W)
  have AL := Lib.hid (alive_any W hm)
  generalize nextOf v self m = x at V R
  obtain ⟨x1, x2⟩ := x
  clear _wv _ws _wm hm
  go_enter Tryd.func8, Tryd.ntmps8
  go_wp2_with fail
  refine V.out.mono ?_
  rintro e w1 ⟨rfl, rfl⟩
  go_wp2_with fail
  refine R.out.mono ?_
  rintro e w2 ⟨rfl, rfl⟩
  go_wp2_with fail
  refine AL.out.mono ?_
  rintro e w2 ⟨rfl, hb2⟩
  cases x2 <;> (go_wp2_with fail; go_ret; exact ⟨rfl, hb2⟩)
end Go.Proofs.YtbkjhogfpcmcbaaDoor
