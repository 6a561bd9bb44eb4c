/-
  A goto that goes on to a label behind it: what stands behind the label is walked from the goto on. Conditions: none (a plain lemma over any program).
-/
import Derived.WalkKit
import Derived.ScopeJumps
namespace Go.Proofs.Ytdiboicllolcnaa
open Go

theorem wp_scope_forward {P : Program} {c rest : Code} {Q : Exit → Act → World → Prop} {a : Act} {w : World} (l : Nat) (hf : findLabel c l = some rest)
    (first : c.wp P (Exit.jump l (fun a w => rest.wp P (Exit.noGoto Q) a w) Q) a w) : (Code.scope c).wp P Q a w :=
  wp_scope_jumps l _ (fun _ _ => 0) hf first (fun _ _ h => wp_mono h (fun e a w he => by
    cases e with
    | goto l' => exact he.elim
    | normal => exact he
    | exit id => exact he
    | ret => exact he
    | panic ch => exact he
    | outgrown => exact he))
theorem jump_ret {l : Nat} {J : Act → World → Prop} {Q : Exit → Act → World → Prop} {a : Act} {w : World} : Exit.jump l J Q .ret a w = Q .ret a w := rfl
end Go.Proofs.Ytdiboicllolcnaa
