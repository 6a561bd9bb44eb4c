/-
  A region that draws its order, whose operations read memory below a block and whose callees make memory of their own but hand back one value: one walk in the order of the text. Conditions: none (plain lemmas over any program).
-/
import Derived.WalkKit
import Derived.BigQuiet
import Derived.Deep.QuietTactic
import Derived.Below
namespace Go.Proofs.Ytadgnemfjmiafaa
open Go Go.RowKit
variable {P : Program}

theorem wp_region_below {id : Nat} {Q : Exit → Act → World → Prop} {a : Act} {w w0 : World} {B : Nat} {l : List Oper} (hm : P.follows .mixedOrders = true) (hB : Region.lexB .any l.toArray = true)
    (hb : Below B w0 w) (h : wpQuiet P l.toArray (Below B w0) (fun a' => ∀ w', Below B w0 w' → Q .normal a' w') l a) : (Code.region id l.toArray true).wp P Q a w :=
  wp_region_quiet (C := Below B w0) hm hB hb.drew (by simpa using h)

theorem quiet_value {o : Oper} {a : Act} {C : World → Prop} {K : Act → Prop} {v : Value} (h : ∀ w, C w → (execOp a.eval o).run P w = .ok (.value v) w) (hk : K (a.put o.dst v)) : o.quiet P a C K :=
  ⟨v, fun w hw => by unfold Oper.quietAt; rw [h w hw]; exact ⟨rfl, rfl⟩, hk⟩
theorem quiet_call {o : Oper} {a : Act} {C : World → Prop} {K : Act → Prop} {v : Value} {f : FuncId} {args : Array Value} (h : ∀ w, C w → (execOp a.eval o).run P w = .ok (.enter f args) w)
    (hc : ∀ w, C w → Calls P f args w fun e w' => e = .returned v ∧ C w') (hk : K (a.put o.dst v)) : o.quiet P a C K :=
  ⟨v, fun w hw => by unfold Oper.quietAt; rw [h w hw]; exact ⟨rfl, hc w hw⟩, hk⟩

/-- a call that leaves the world alone, in any world of a class. -/
theorem in_class {f : FuncId} {args : Array Value} {w : World} {v : Ending} {C : World → Prop} (h : Calls P f args w fun e w' => e = v ∧ w = w') (hw : C w) : Calls P f args w fun e w' => e = v ∧ C w' :=
  h.mono fun _ _ ⟨h1, h2⟩ => ⟨h1, h2 ▸ hw⟩
/-- a call that makes memory alone. -/
theorem in_below {f : FuncId} {args : Array Value} {w w0 : World} {v : Ending} {B : Nat} (h : Calls P f args w fun e w' => e = v ∧ Below w.heap.size w w') (hw : Below B w0 w) (hB : B ≤ w0.heap.size) :
    Calls P f args w fun e w' => e = v ∧ Below B w0 w' :=
  h.mono fun _ _ ⟨h1, h2⟩ => ⟨h1, hw.trans (h2.mono (Nat.le_trans hB hw.size))⟩

end Go.Proofs.Ytadgnemfjmiafaa
