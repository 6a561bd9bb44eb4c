/- chart: the table of powers of ten, out of what lies when the call begins; Itoa. Conditions: the row's own cell 'laid'. -/
import Derived.Test.YtbkjhogfpcmcbaaDoorKk
import Derived.Lib.LaidU8
import Derived.Lib.SmallJoins
namespace Go.Proofs.YtbkjhogfpcmcbaaDoor
open Go Go.RowKit Zn
def Tb (w : World) : Prop := Lib.TabIs Tryd.prog w "internal/strconv.uint64pow10" .u64 Lib.pow10Tab
theorem gPow : Tryd.prog.globalNamed "internal/strconv.uint64pow10" = some 1 := by kernel_rfl
theorem tPow : (Tryd.prog.globals[1]?).map (·.type) = some 119 := by kernel_rfl
theorem uPow : Tryd.prog.underlying 119 = some (.array 20 108) := by kernel_rfl
theorem ePow : Tryd.prog.underlying 108 = some (.int .u64) := by kernel_rfl
theorem tab_of_laid {W : World} {laid : List (String × DataW Unit)} (h : laidMet Tryd.prog laid W) (hm : ("internal/strconv.uint64pow10", Lib.tabData .u64 Lib.pow10Tab) ∈ laid) : Tb W := by
  obtain ⟨g, t, cs, fuel, p, hg, ht, hvar, hd⟩ := Lib.laidMet.reads h hm
  obtain rfl := Option.some.inj (gPow.symm.trans hg)
  obtain rfl := Option.some.inj (tPow.symm.trans ht)
  unfold Tb Lib.TabIs
  rw [hvar, ← Lib.cells_of_tab uPow ePow (by kernel_rfl) (by kernel_rfl) hd]
theorem Tb.below {w w' : World} (h : Tb w) (hb : Below w.heap.size w w') : Tb w' := Go.Joins.tab_stays gPow h hb (Nat.le_refl _)
end Go.Proofs.YtbkjhogfpcmcbaaDoor
