/-
  No cell of these rows narrows 'for every input' (looked for: loops, veiled, ifaces, maps, wideKeys, modest, calm, conditions, laid).
  DERIVED. THE GIVEN ROWS OF THIS SEAT. 5 by the template 'for every input the law returns true; each argument reads behind the call as it read before'; 0 by the template 'total and deterministic' (their statements: YtadgnemfjmiafaaTotals.lean).
  GIVEN WITH THE SEED: the statements are not yours to turn. If you find one false, say at which input.
  Laid BY PROGRAM, IN A SANDBOX (cutbox-rows.mjs): the forced cells as the released guide's own fill.sh prints them over the translation 5541859a9efa2a95… (all of the seat's roots in one cut). By AI agents, Wed Nov 11 2026. No macro, syntax, notation, axiom, sorry.
-/
import Derived.Test.YtadgnemfjmiafaaChecked
import GoSem.Claim
import GoSem.ClaimJoined
import GoSem.ClaimMapViews
import Derived.JoinedTies
import Derived.KernelRfl
namespace Go.Proofs.Ytadgnemfjmiafaa
/- THE CELL 'sum', in the pinned program and in every row, IS THE sha256 OF THE DUMP (.gsa) THAT YtadgnemfjmiafaaProg.lean LOADS. Nothing in Lean hashes anything: it is a label: what it is worth is what the hold of that sum in a sandbox is worth. -/
noncomputable def Try.pinned : Pinned := { name := "ytadgnemfjmiafaa", sum := "5541859a9efa2a9559f7bf819b7d72e0caf55b622fa9b147808a31081df17bbe", checked := Try.checked }
namespace Rows
def none {H : Type} : Left H := { results := [], args := [] }

/-- 'harpsichordlaw03.CratePuts': WHATEVER THE INPUT: true; the input reads as it did. -/
def cratePutsSpec : ChangeSpec := { name := "cratePuts", fn := fun _ => fun
  | [d] => { results := [.lit (.bool true)], args := [d] }
  | _ => none }
def cratePutsRow : OpenClaim := { program := "ytadgnemfjmiafaa", sum := "5541859a9efa2a9559f7bf819b7d72e0caf55b622fa9b147808a31081df17bbe", func := "harpsichord/harpsichordlaw03.CratePuts", spec := "cratePuts", apart := false }
def CratePutsSaid : Prop := cratePutsRow.holds Try.pinned (OpenSpec.ofChange cratePutsSpec)

/-- ITS FALSE NEIGHBOUR: 'it returns false'. Refute it at one input. -/
def cratePutsWrong : ChangeSpec := { name := "cratePuts", fn := fun _ => fun
  | [d] => { results := [.lit (.bool false)], args := [d] }
  | _ => none }
def CratePutsWrongFalsely : Prop := cratePutsRow.holds Try.pinned (OpenSpec.ofChange cratePutsWrong)

/-- 'harpsichordlaw03.CrateGets': WHATEVER THE INPUT: true; the input reads as it did. -/
def crateGetsSpec : ChangeSpec := { name := "crateGets", fn := fun _ => fun
  | [d] => { results := [.lit (.bool true)], args := [d] }
  | _ => none }
def crateGetsRow : OpenClaim := { program := "ytadgnemfjmiafaa", sum := "5541859a9efa2a9559f7bf819b7d72e0caf55b622fa9b147808a31081df17bbe", func := "harpsichord/harpsichordlaw03.CrateGets", spec := "crateGets", apart := false }
def CrateGetsSaid : Prop := crateGetsRow.holds Try.pinned (OpenSpec.ofChange crateGetsSpec)

/-- ITS FALSE NEIGHBOUR: 'it returns false'. Refute it at one input. -/
def crateGetsWrong : ChangeSpec := { name := "crateGets", fn := fun _ => fun
  | [d] => { results := [.lit (.bool false)], args := [d] }
  | _ => none }
def CrateGetsWrongFalsely : Prop := crateGetsRow.holds Try.pinned (OpenSpec.ofChange crateGetsWrong)

/-- 'harpsichordlaw03.CrateBack': WHATEVER THE INPUT: true; the input reads as it did. -/
def crateBackSpec : ChangeSpec := { name := "crateBack", fn := fun _ => fun
  | [d1, d2] => { results := [.lit (.bool true)], args := [d1, d2] }
  | _ => none }
def crateBackRow : OpenClaim := { program := "ytadgnemfjmiafaa", sum := "5541859a9efa2a9559f7bf819b7d72e0caf55b622fa9b147808a31081df17bbe", func := "harpsichord/harpsichordlaw03.CrateBack", spec := "crateBack", apart := false }
def CrateBackSaid : Prop := crateBackRow.holds Try.pinned (OpenSpec.ofChange crateBackSpec)

/-- ITS FALSE NEIGHBOUR: 'it returns false'. Refute it at one input. -/
def crateBackWrong : ChangeSpec := { name := "crateBack", fn := fun _ => fun
  | [d1, d2] => { results := [.lit (.bool false)], args := [d1, d2] }
  | _ => none }
def CrateBackWrongFalsely : Prop := crateBackRow.holds Try.pinned (OpenSpec.ofChange crateBackWrong)

/-- 'harpsichordlaw03.CrateCuts': WHATEVER THE INPUT: true; the input reads as it did. -/
def crateCutsSpec : ChangeSpec := { name := "crateCuts", fn := fun _ => fun
  | [d1, d2] => { results := [.lit (.bool true)], args := [d1, d2] }
  | _ => none }
def crateCutsRow : OpenClaim := { program := "ytadgnemfjmiafaa", sum := "5541859a9efa2a9559f7bf819b7d72e0caf55b622fa9b147808a31081df17bbe", func := "harpsichord/harpsichordlaw03.CrateCuts", spec := "crateCuts", unfollowed := true, recurses := true, apart := false }
def CrateCutsSaid : Prop := crateCutsRow.holds Try.pinned (OpenSpec.ofChange crateCutsSpec)

/-- ITS FALSE NEIGHBOUR: 'it returns false'. Refute it at one input. -/
def crateCutsWrong : ChangeSpec := { name := "crateCuts", fn := fun _ => fun
  | [d1, d2] => { results := [.lit (.bool false)], args := [d1, d2] }
  | _ => none }
def CrateCutsWrongFalsely : Prop := crateCutsRow.holds Try.pinned (OpenSpec.ofChange crateCutsWrong)

/-- 'harpsichordlaw03.CrateJoins': WHATEVER THE INPUT: true; the input reads as it did. -/
def crateJoinsSpec : ChangeSpec := { name := "crateJoins", fn := fun _ => fun
  | [d1, d2] => { results := [.lit (.bool true)], args := [d1, d2] }
  | _ => none }
def crateJoinsRow : OpenClaim := { program := "ytadgnemfjmiafaa", sum := "5541859a9efa2a9559f7bf819b7d72e0caf55b622fa9b147808a31081df17bbe", func := "harpsichord/harpsichordlaw03.CrateJoins", spec := "crateJoins", unfollowed := true, recurses := true, apart := false }
def CrateJoinsSaid : Prop := crateJoinsRow.holds Try.pinned (OpenSpec.ofChange crateJoinsSpec)

/-- ITS FALSE NEIGHBOUR: 'it returns false'. Refute it at one input. -/
def crateJoinsWrong : ChangeSpec := { name := "crateJoins", fn := fun _ => fun
  | [d1, d2] => { results := [.lit (.bool false)], args := [d1, d2] }
  | _ => none }
def CrateJoinsWrongFalsely : Prop := crateJoinsRow.holds Try.pinned (OpenSpec.ofChange crateJoinsWrong)

/- THE SECOND FORM. 'bulk': how many values and letters a reading holds, each counted each time it is reached (what is shared counts as often as it is met; a slice's spare places count too). A statement '..UptoSaid' is the law's where the arguments, and the package variables that the reading takes, are together of bulk at most 1048576: NARROWER than '..Said'. Prove '..Said' where nothing that the law and all that it calls make is longer than what came in: it says more and counts as full. Else prove '..UptoSaid'. A law counts once. -/
mutual
def uptoBulk {H : Type} : DataW H → Nat
  | .lit (.string bytes) => bytes.length + 1
  | .lit _ => 1
  | .nil => 1
  | .ptr d => uptoBulk d + 1
  | .slice elems spare => uptoBulkAll elems + uptoBulkAll spare + 1
  | .agg parts => uptoBulkAll parts + 1
  | .iface _ d => uptoBulk d + 1
  | .map entries => uptoBulkEntries entries + 1
  | .held _ => 1
def uptoBulkAll {H : Type} : List (DataW H) → Nat
  | [] => 0
  | d :: r => uptoBulk d + uptoBulkAll r
def uptoBulkEntries {H : Type} : List (Lit × DataW H) → Nat
  | [] => 0
  | x :: r => uptoBulkEntry x + uptoBulkEntries r
def uptoBulkEntry {H : Type} : Lit × DataW H → Nat
  | (.string bytes, d) => bytes.length + uptoBulk d + 1
  | (_, d) => uptoBulk d + 1
 end
def uptoSmall : (H : Type) → List (DataW H) → Bool := fun _ ds => decide (uptoBulkAll ds ≤ 1048576)
def OpenSpec.upto (s : _root_.Go.ChangeSpec) : _root_.Go.OpenSpec := { _root_.Go.OpenSpec.ofChange s with cond := some uptoSmall }

/-- 'harpsichordlaw03.CratePuts', WHERE WHAT IT READS IS OF BULK AT MOST 1048576: true; the input reads as it did. -/
def cratePutsUptoRow : OpenClaim := { program := "ytadgnemfjmiafaa", sum := "5541859a9efa2a9559f7bf819b7d72e0caf55b622fa9b147808a31081df17bbe", func := "harpsichord/harpsichordlaw03.CratePuts", spec := "cratePuts", apart := false, narrowed := true }
def CratePutsUptoSaid : Prop := cratePutsUptoRow.holds Try.pinned (OpenSpec.upto cratePutsSpec)

/-- 'harpsichordlaw03.CrateGets', WHERE WHAT IT READS IS OF BULK AT MOST 1048576: true; the input reads as it did. -/
def crateGetsUptoRow : OpenClaim := { program := "ytadgnemfjmiafaa", sum := "5541859a9efa2a9559f7bf819b7d72e0caf55b622fa9b147808a31081df17bbe", func := "harpsichord/harpsichordlaw03.CrateGets", spec := "crateGets", apart := false, narrowed := true }
def CrateGetsUptoSaid : Prop := crateGetsUptoRow.holds Try.pinned (OpenSpec.upto crateGetsSpec)

/-- 'harpsichordlaw03.CrateBack', WHERE WHAT IT READS IS OF BULK AT MOST 1048576: true; the input reads as it did. -/
def crateBackUptoRow : OpenClaim := { program := "ytadgnemfjmiafaa", sum := "5541859a9efa2a9559f7bf819b7d72e0caf55b622fa9b147808a31081df17bbe", func := "harpsichord/harpsichordlaw03.CrateBack", spec := "crateBack", apart := false, narrowed := true }
def CrateBackUptoSaid : Prop := crateBackUptoRow.holds Try.pinned (OpenSpec.upto crateBackSpec)

/-- 'harpsichordlaw03.CrateCuts', WHERE WHAT IT READS IS OF BULK AT MOST 1048576: true; the input reads as it did. -/
def crateCutsUptoRow : OpenClaim := { program := "ytadgnemfjmiafaa", sum := "5541859a9efa2a9559f7bf819b7d72e0caf55b622fa9b147808a31081df17bbe", func := "harpsichord/harpsichordlaw03.CrateCuts", spec := "crateCuts", unfollowed := true, recurses := true, apart := false, narrowed := true }
def CrateCutsUptoSaid : Prop := crateCutsUptoRow.holds Try.pinned (OpenSpec.upto crateCutsSpec)

/-- 'harpsichordlaw03.CrateJoins', WHERE WHAT IT READS IS OF BULK AT MOST 1048576: true; the input reads as it did. -/
def crateJoinsUptoRow : OpenClaim := { program := "ytadgnemfjmiafaa", sum := "5541859a9efa2a9559f7bf819b7d72e0caf55b622fa9b147808a31081df17bbe", func := "harpsichord/harpsichordlaw03.CrateJoins", spec := "crateJoins", unfollowed := true, recurses := true, apart := false, narrowed := true }
def CrateJoinsUptoSaid : Prop := crateJoinsUptoRow.holds Try.pinned (OpenSpec.upto crateJoinsSpec)

end Rows
end Go.Proofs.Ytadgnemfjmiafaa
