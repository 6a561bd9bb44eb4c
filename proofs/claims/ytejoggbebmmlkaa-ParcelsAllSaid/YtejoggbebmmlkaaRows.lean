/-
  No cell of these rows narrows 'for every input' (looked for: loops, veiled, ifaces, maps, wideKeys, modest, calm, conditions, laid).
  DERIVED. THE GIVEN ROWS OF THIS SEAT. 5 by the template 'for every input the law returns true; each argument reads behind the call as it read before'; 0 by the template 'total and deterministic' (their statements: YtejoggbebmmlkaaTotals.lean).
  GIVEN WITH THE SEED: the statements are not yours to turn. If you find one false, say at which input.
  Laid BY PROGRAM, IN A SANDBOX (cutbox-rows.mjs): the forced cells as the released guide's own fill.sh prints them over the translation aefdfb4bd835e7f3… (all of the seat's roots in one cut). By AI agents, Wed Nov 11 2026. No macro, syntax, notation, axiom, sorry.
-/
import Derived.Test.YtejoggbebmmlkaaChecked
import GoSem.Claim
import GoSem.ClaimJoined
import GoSem.ClaimMapViews
import Derived.JoinedTies
import Derived.KernelRfl
namespace Go.Proofs.Ytejoggbebmmlkaa
/- THE CELL 'sum', in the pinned program and in every row, IS THE sha256 OF THE DUMP (.gsa) THAT YtejoggbebmmlkaaProg.lean LOADS. Nothing in Lean hashes anything: it is a label: what it is worth is what the hold of that sum in a sandbox is worth. -/
noncomputable def Try.pinned : Pinned := { name := "ytejoggbebmmlkaa", sum := "aefdfb4bd835e7f316303dc2b10d98ed4bce799429d8613e7ef86d5cf983ea24", checked := Try.checked }
namespace Rows
def none {H : Type} : Left H := { results := [], args := [] }

/-- 'harpsichordlaw06.ParcelsInOrder': WHATEVER THE INPUT: true; the input reads as it did. -/
def parcelsInOrderSpec : ChangeSpec := { name := "parcelsInOrder", fn := fun _ => fun
  | [d] => { results := [.lit (.bool true)], args := [d] }
  | _ => none }
def parcelsInOrderRow : OpenClaim := { program := "ytejoggbebmmlkaa", sum := "aefdfb4bd835e7f316303dc2b10d98ed4bce799429d8613e7ef86d5cf983ea24", func := "harpsichord/harpsichordlaw06.ParcelsInOrder", spec := "parcelsInOrder", plainKeys := false, apart := false }
def ParcelsInOrderSaid : Prop := parcelsInOrderRow.holds Try.pinned (OpenSpec.ofChange parcelsInOrderSpec)

/-- ITS FALSE NEIGHBOUR: 'it returns false'. Refute it at one input. -/
def parcelsInOrderWrong : ChangeSpec := { name := "parcelsInOrder", fn := fun _ => fun
  | [d] => { results := [.lit (.bool false)], args := [d] }
  | _ => none }
def ParcelsInOrderWrongFalsely : Prop := parcelsInOrderRow.holds Try.pinned (OpenSpec.ofChange parcelsInOrderWrong)

/-- 'harpsichordlaw06.ParcelsFull': WHATEVER THE INPUT: true; the input reads as it did. -/
def parcelsFullSpec : ChangeSpec := { name := "parcelsFull", fn := fun _ => fun
  | [d1, d2] => { results := [.lit (.bool true)], args := [d1, d2] }
  | _ => none }
def parcelsFullRow : OpenClaim := { program := "ytejoggbebmmlkaa", sum := "aefdfb4bd835e7f316303dc2b10d98ed4bce799429d8613e7ef86d5cf983ea24", func := "harpsichord/harpsichordlaw06.ParcelsFull", spec := "parcelsFull", plainKeys := false, apart := false }
def ParcelsFullSaid : Prop := parcelsFullRow.holds Try.pinned (OpenSpec.ofChange parcelsFullSpec)

/-- ITS FALSE NEIGHBOUR: 'it returns false'. Refute it at one input. -/
def parcelsFullWrong : ChangeSpec := { name := "parcelsFull", fn := fun _ => fun
  | [d1, d2] => { results := [.lit (.bool false)], args := [d1, d2] }
  | _ => none }
def ParcelsFullWrongFalsely : Prop := parcelsFullRow.holds Try.pinned (OpenSpec.ofChange parcelsFullWrong)

/-- 'harpsichordlaw06.ParcelsOnce': WHATEVER THE INPUT: true; the input reads as it did. -/
def parcelsOnceSpec : ChangeSpec := { name := "parcelsOnce", fn := fun _ => fun
  | [d] => { results := [.lit (.bool true)], args := [d] }
  | _ => none }
def parcelsOnceRow : OpenClaim := { program := "ytejoggbebmmlkaa", sum := "aefdfb4bd835e7f316303dc2b10d98ed4bce799429d8613e7ef86d5cf983ea24", func := "harpsichord/harpsichordlaw06.ParcelsOnce", spec := "parcelsOnce", unfollowed := true, recurses := true, plainKeys := false, apart := false }
def ParcelsOnceSaid : Prop := parcelsOnceRow.holds Try.pinned (OpenSpec.ofChange parcelsOnceSpec)

/-- ITS FALSE NEIGHBOUR: 'it returns false'. Refute it at one input. -/
def parcelsOnceWrong : ChangeSpec := { name := "parcelsOnce", fn := fun _ => fun
  | [d] => { results := [.lit (.bool false)], args := [d] }
  | _ => none }
def ParcelsOnceWrongFalsely : Prop := parcelsOnceRow.holds Try.pinned (OpenSpec.ofChange parcelsOnceWrong)

/-- 'harpsichordlaw06.ParcelsParts': WHATEVER THE INPUT: true; the input reads as it did. -/
def parcelsPartsSpec : ChangeSpec := { name := "parcelsParts", fn := fun _ => fun
  | [d1, d2, d3] => { results := [.lit (.bool true)], args := [d1, d2, d3] }
  | _ => none }
def parcelsPartsRow : OpenClaim := { program := "ytejoggbebmmlkaa", sum := "aefdfb4bd835e7f316303dc2b10d98ed4bce799429d8613e7ef86d5cf983ea24", func := "harpsichord/harpsichordlaw06.ParcelsParts", spec := "parcelsParts", unfollowed := true, recurses := true, plainKeys := false, apart := false }
def ParcelsPartsSaid : Prop := parcelsPartsRow.holds Try.pinned (OpenSpec.ofChange parcelsPartsSpec)

/-- ITS FALSE NEIGHBOUR: 'it returns false'. Refute it at one input. -/
def parcelsPartsWrong : ChangeSpec := { name := "parcelsParts", fn := fun _ => fun
  | [d1, d2, d3] => { results := [.lit (.bool false)], args := [d1, d2, d3] }
  | _ => none }
def ParcelsPartsWrongFalsely : Prop := parcelsPartsRow.holds Try.pinned (OpenSpec.ofChange parcelsPartsWrong)

/-- 'harpsichordlaw06.ParcelsAll': WHATEVER THE INPUT: true; the input reads as it did. -/
def parcelsAllSpec : ChangeSpec := { name := "parcelsAll", fn := fun _ => fun
  | [d] => { results := [.lit (.bool true)], args := [d] }
  | _ => none }
def parcelsAllRow : OpenClaim := { program := "ytejoggbebmmlkaa", sum := "aefdfb4bd835e7f316303dc2b10d98ed4bce799429d8613e7ef86d5cf983ea24", func := "harpsichord/harpsichordlaw06.ParcelsAll", spec := "parcelsAll", unfollowed := true, recurses := true, plainKeys := false, apart := false }
def ParcelsAllSaid : Prop := parcelsAllRow.holds Try.pinned (OpenSpec.ofChange parcelsAllSpec)

/-- ITS FALSE NEIGHBOUR: 'it returns false'. Refute it at one input. -/
def parcelsAllWrong : ChangeSpec := { name := "parcelsAll", fn := fun _ => fun
  | [d] => { results := [.lit (.bool false)], args := [d] }
  | _ => none }
def ParcelsAllWrongFalsely : Prop := parcelsAllRow.holds Try.pinned (OpenSpec.ofChange parcelsAllWrong)

/- THE SECOND FORM. 'bulk': how many values and letters a reading holds, each counted each time it is reached (what is shared counts as often as it is met; a slice's spare places count too). A statement '..UptoSaid' is the law's where the arguments, and the package variables that the reading takes, are together of bulk at most 1048576: NARROWER than '..Said'. Prove '..Said' where nothing that the law and all that it calls make is longer than what came in: it says more and counts as full. Else prove '..UptoSaid'. A law counts once. -/
mutual
def uptoBulk {H : Type} : DataW H → Nat
  | .lit (.string bytes) => bytes.length + 1
  | .lit _ => 1
  | .nil => 1
  | .ptr d => uptoBulk d + 1
  | .slice elems spare => uptoBulkAll elems + uptoBulkAll spare + 1
  | .agg parts => uptoBulkAll parts + 1
  | .iface _ d => uptoBulk d + 1
  | .map entries => uptoBulkEntries entries + 1
  | .held _ => 1
def uptoBulkAll {H : Type} : List (DataW H) → Nat
  | [] => 0
  | d :: r => uptoBulk d + uptoBulkAll r
def uptoBulkEntries {H : Type} : List (Lit × DataW H) → Nat
  | [] => 0
  | x :: r => uptoBulkEntry x + uptoBulkEntries r
def uptoBulkEntry {H : Type} : Lit × DataW H → Nat
  | (.string bytes, d) => bytes.length + uptoBulk d + 1
  | (_, d) => uptoBulk d + 1
 end
def uptoSmall : (H : Type) → List (DataW H) → Bool := fun _ ds => decide (uptoBulkAll ds ≤ 1048576)
def OpenSpec.upto (s : _root_.Go.ChangeSpec) : _root_.Go.OpenSpec := { _root_.Go.OpenSpec.ofChange s with cond := some uptoSmall }

/-- 'harpsichordlaw06.ParcelsInOrder', WHERE WHAT IT READS IS OF BULK AT MOST 1048576: true; the input reads as it did. -/
def parcelsInOrderUptoRow : OpenClaim := { program := "ytejoggbebmmlkaa", sum := "aefdfb4bd835e7f316303dc2b10d98ed4bce799429d8613e7ef86d5cf983ea24", func := "harpsichord/harpsichordlaw06.ParcelsInOrder", spec := "parcelsInOrder", plainKeys := false, apart := false, narrowed := true }
def ParcelsInOrderUptoSaid : Prop := parcelsInOrderUptoRow.holds Try.pinned (OpenSpec.upto parcelsInOrderSpec)

/-- 'harpsichordlaw06.ParcelsFull', WHERE WHAT IT READS IS OF BULK AT MOST 1048576: true; the input reads as it did. -/
def parcelsFullUptoRow : OpenClaim := { program := "ytejoggbebmmlkaa", sum := "aefdfb4bd835e7f316303dc2b10d98ed4bce799429d8613e7ef86d5cf983ea24", func := "harpsichord/harpsichordlaw06.ParcelsFull", spec := "parcelsFull", plainKeys := false, apart := false, narrowed := true }
def ParcelsFullUptoSaid : Prop := parcelsFullUptoRow.holds Try.pinned (OpenSpec.upto parcelsFullSpec)

/-- 'harpsichordlaw06.ParcelsOnce', WHERE WHAT IT READS IS OF BULK AT MOST 1048576: true; the input reads as it did. -/
def parcelsOnceUptoRow : OpenClaim := { program := "ytejoggbebmmlkaa", sum := "aefdfb4bd835e7f316303dc2b10d98ed4bce799429d8613e7ef86d5cf983ea24", func := "harpsichord/harpsichordlaw06.ParcelsOnce", spec := "parcelsOnce", unfollowed := true, recurses := true, plainKeys := false, apart := false, narrowed := true }
def ParcelsOnceUptoSaid : Prop := parcelsOnceUptoRow.holds Try.pinned (OpenSpec.upto parcelsOnceSpec)

/-- 'harpsichordlaw06.ParcelsParts', WHERE WHAT IT READS IS OF BULK AT MOST 1048576: true; the input reads as it did. -/
def parcelsPartsUptoRow : OpenClaim := { program := "ytejoggbebmmlkaa", sum := "aefdfb4bd835e7f316303dc2b10d98ed4bce799429d8613e7ef86d5cf983ea24", func := "harpsichord/harpsichordlaw06.ParcelsParts", spec := "parcelsParts", unfollowed := true, recurses := true, plainKeys := false, apart := false, narrowed := true }
def ParcelsPartsUptoSaid : Prop := parcelsPartsUptoRow.holds Try.pinned (OpenSpec.upto parcelsPartsSpec)

/-- 'harpsichordlaw06.ParcelsAll', WHERE WHAT IT READS IS OF BULK AT MOST 1048576: true; the input reads as it did. -/
def parcelsAllUptoRow : OpenClaim := { program := "ytejoggbebmmlkaa", sum := "aefdfb4bd835e7f316303dc2b10d98ed4bce799429d8613e7ef86d5cf983ea24", func := "harpsichord/harpsichordlaw06.ParcelsAll", spec := "parcelsAll", unfollowed := true, recurses := true, plainKeys := false, apart := false, narrowed := true }
def ParcelsAllUptoSaid : Prop := parcelsAllUptoRow.holds Try.pinned (OpenSpec.upto parcelsAllSpec)

end Rows
end Go.Proofs.Ytejoggbebmmlkaa
