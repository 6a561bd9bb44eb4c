/-
  No cell of these rows narrows 'for every input' (looked for: loops, veiled, ifaces, maps, wideKeys, modest, calm, conditions, laid).
  DERIVED. THE GIVEN ROWS OF THIS SEAT. 6 by the template 'for every input the law returns true; each argument reads behind the call as it read before'; 0 by the template 'total and deterministic' (their statements: YtpgoacemjpobjaaTotals.lean).
  GIVEN WITH THE SEED: the statements are not yours to turn. If you find one false, say at which input.
  Laid BY PROGRAM, IN A SANDBOX (cutbox-rows.mjs): the forced cells as the released guide's own fill.sh prints them over the translation 717acacb7c5863ba… (all of the seat's roots in one cut). By AI agents, Wed Nov 11 2026. No macro, syntax, notation, axiom, sorry.
-/
import Derived.Test.YtpgoacemjpobjaaChecked
import GoSem.Claim
import GoSem.ClaimJoined
import GoSem.ClaimMapViews
import Derived.JoinedTies
import Derived.KernelRfl
namespace Go.Proofs.Ytpgoacemjpobjaa
/- THE CELL 'sum', in the pinned program and in every row, IS THE sha256 OF THE DUMP (.gsa) THAT YtpgoacemjpobjaaProg.lean LOADS. Nothing in Lean hashes anything: it is a label: what it is worth is what the hold of that sum in a sandbox is worth. -/
noncomputable def Try.pinned : Pinned := { name := "ytpgoacemjpobjaa", sum := "717acacb7c5863ba9ed1792662323b0c2b9ab0d3d3d4e49d2f082e8c8232ff51", checked := Try.checked }
namespace Rows
def none {H : Type} : Left H := { results := [], args := [] }

/-- 'harpsichordlaw04.PlatterAll': WHATEVER THE INPUT: true; the input reads as it did. -/
def platterAllSpec : ChangeSpec := { name := "platterAll", fn := fun _ => fun
  | [d1, d2] => { results := [.lit (.bool true)], args := [d1, d2] }
  | _ => none }
def platterAllRow : OpenClaim := { program := "ytpgoacemjpobjaa", sum := "717acacb7c5863ba9ed1792662323b0c2b9ab0d3d3d4e49d2f082e8c8232ff51", func := "harpsichord/harpsichordlaw04.PlatterAll", spec := "platterAll", apart := false }
def PlatterAllSaid : Prop := platterAllRow.holds Try.pinned (OpenSpec.ofChange platterAllSpec)

/-- ITS FALSE NEIGHBOUR: 'it returns false'. Refute it at one input. -/
def platterAllWrong : ChangeSpec := { name := "platterAll", fn := fun _ => fun
  | [d1, d2] => { results := [.lit (.bool false)], args := [d1, d2] }
  | _ => none }
def PlatterAllWrongFalsely : Prop := platterAllRow.holds Try.pinned (OpenSpec.ofChange platterAllWrong)

/-- 'harpsichordlaw04.PlatterFinds': WHATEVER THE INPUT: true; the input reads as it did. -/
def platterFindsSpec : ChangeSpec := { name := "platterFinds", fn := fun _ => fun
  | [d1, d2, d3] => { results := [.lit (.bool true)], args := [d1, d2, d3] }
  | _ => none }
def platterFindsRow : OpenClaim := { program := "ytpgoacemjpobjaa", sum := "717acacb7c5863ba9ed1792662323b0c2b9ab0d3d3d4e49d2f082e8c8232ff51", func := "harpsichord/harpsichordlaw04.PlatterFinds", spec := "platterFinds", apart := false }
def PlatterFindsSaid : Prop := platterFindsRow.holds Try.pinned (OpenSpec.ofChange platterFindsSpec)

/-- ITS FALSE NEIGHBOUR: 'it returns false'. Refute it at one input. -/
def platterFindsWrong : ChangeSpec := { name := "platterFinds", fn := fun _ => fun
  | [d1, d2, d3] => { results := [.lit (.bool false)], args := [d1, d2, d3] }
  | _ => none }
def PlatterFindsWrongFalsely : Prop := platterFindsRow.holds Try.pinned (OpenSpec.ofChange platterFindsWrong)

/-- 'harpsichordlaw04.PlatterLasts': WHATEVER THE INPUT: true; the input reads as it did. -/
def platterLastsSpec : ChangeSpec := { name := "platterLasts", fn := fun _ => fun
  | [d1, d2, d3] => { results := [.lit (.bool true)], args := [d1, d2, d3] }
  | _ => none }
def platterLastsRow : OpenClaim := { program := "ytpgoacemjpobjaa", sum := "717acacb7c5863ba9ed1792662323b0c2b9ab0d3d3d4e49d2f082e8c8232ff51", func := "harpsichord/harpsichordlaw04.PlatterLasts", spec := "platterLasts", apart := false }
def PlatterLastsSaid : Prop := platterLastsRow.holds Try.pinned (OpenSpec.ofChange platterLastsSpec)

/-- ITS FALSE NEIGHBOUR: 'it returns false'. Refute it at one input. -/
def platterLastsWrong : ChangeSpec := { name := "platterLasts", fn := fun _ => fun
  | [d1, d2, d3] => { results := [.lit (.bool false)], args := [d1, d2, d3] }
  | _ => none }
def PlatterLastsWrongFalsely : Prop := platterLastsRow.holds Try.pinned (OpenSpec.ofChange platterLastsWrong)

/-- 'harpsichordlaw04.PlatterApart': WHATEVER THE INPUT: true; the input reads as it did. -/
def platterApartSpec : ChangeSpec := { name := "platterApart", fn := fun _ => fun
  | [d1, d2, d3] => { results := [.lit (.bool true)], args := [d1, d2, d3] }
  | _ => none }
def platterApartRow : OpenClaim := { program := "ytpgoacemjpobjaa", sum := "717acacb7c5863ba9ed1792662323b0c2b9ab0d3d3d4e49d2f082e8c8232ff51", func := "harpsichord/harpsichordlaw04.PlatterApart", spec := "platterApart", apart := false }
def PlatterApartSaid : Prop := platterApartRow.holds Try.pinned (OpenSpec.ofChange platterApartSpec)

/-- ITS FALSE NEIGHBOUR: 'it returns false'. Refute it at one input. -/
def platterApartWrong : ChangeSpec := { name := "platterApart", fn := fun _ => fun
  | [d1, d2, d3] => { results := [.lit (.bool false)], args := [d1, d2, d3] }
  | _ => none }
def PlatterApartWrongFalsely : Prop := platterApartRow.holds Try.pinned (OpenSpec.ofChange platterApartWrong)

/-- 'harpsichordlaw04.PlatterWhole': WHATEVER THE INPUT: true; the input reads as it did. -/
def platterWholeSpec : ChangeSpec := { name := "platterWhole", fn := fun _ => fun
  | [d1, d2, d3] => { results := [.lit (.bool true)], args := [d1, d2, d3] }
  | _ => none }
def platterWholeRow : OpenClaim := { program := "ytpgoacemjpobjaa", sum := "717acacb7c5863ba9ed1792662323b0c2b9ab0d3d3d4e49d2f082e8c8232ff51", func := "harpsichord/harpsichordlaw04.PlatterWhole", spec := "platterWhole", apart := false }
def PlatterWholeSaid : Prop := platterWholeRow.holds Try.pinned (OpenSpec.ofChange platterWholeSpec)

/-- ITS FALSE NEIGHBOUR: 'it returns false'. Refute it at one input. -/
def platterWholeWrong : ChangeSpec := { name := "platterWhole", fn := fun _ => fun
  | [d1, d2, d3] => { results := [.lit (.bool false)], args := [d1, d2, d3] }
  | _ => none }
def PlatterWholeWrongFalsely : Prop := platterWholeRow.holds Try.pinned (OpenSpec.ofChange platterWholeWrong)

/-- 'harpsichordlaw04.PlatterReads': WHATEVER THE INPUT: true; the input reads as it did. -/
def platterReadsSpec : ChangeSpec := { name := "platterReads", fn := fun _ => fun
  | [d1, d2, d3] => { results := [.lit (.bool true)], args := [d1, d2, d3] }
  | _ => none }
def platterReadsRow : OpenClaim := { program := "ytpgoacemjpobjaa", sum := "717acacb7c5863ba9ed1792662323b0c2b9ab0d3d3d4e49d2f082e8c8232ff51", func := "harpsichord/harpsichordlaw04.PlatterReads", spec := "platterReads", apart := false }
def PlatterReadsSaid : Prop := platterReadsRow.holds Try.pinned (OpenSpec.ofChange platterReadsSpec)

/-- ITS FALSE NEIGHBOUR: 'it returns false'. Refute it at one input. -/
def platterReadsWrong : ChangeSpec := { name := "platterReads", fn := fun _ => fun
  | [d1, d2, d3] => { results := [.lit (.bool false)], args := [d1, d2, d3] }
  | _ => none }
def PlatterReadsWrongFalsely : Prop := platterReadsRow.holds Try.pinned (OpenSpec.ofChange platterReadsWrong)

/- THE SECOND FORM. 'bulk': how many values and letters a reading holds, each counted each time it is reached (what is shared counts as often as it is met; a slice's spare places count too). A statement '..UptoSaid' is the law's where the arguments, and the package variables that the reading takes, are together of bulk at most 1048576: NARROWER than '..Said'. Prove '..Said' where nothing that the law and all that it calls make is longer than what came in: it says more and counts as full. Else prove '..UptoSaid'. A law counts once. -/
mutual
def uptoBulk {H : Type} : DataW H → Nat
  | .lit (.string bytes) => bytes.length + 1
  | .lit _ => 1
  | .nil => 1
  | .ptr d => uptoBulk d + 1
  | .slice elems spare => uptoBulkAll elems + uptoBulkAll spare + 1
  | .agg parts => uptoBulkAll parts + 1
  | .iface _ d => uptoBulk d + 1
  | .map entries => uptoBulkEntries entries + 1
  | .held _ => 1
def uptoBulkAll {H : Type} : List (DataW H) → Nat
  | [] => 0
  | d :: r => uptoBulk d + uptoBulkAll r
def uptoBulkEntries {H : Type} : List (Lit × DataW H) → Nat
  | [] => 0
  | x :: r => uptoBulkEntry x + uptoBulkEntries r
def uptoBulkEntry {H : Type} : Lit × DataW H → Nat
  | (.string bytes, d) => bytes.length + uptoBulk d + 1
  | (_, d) => uptoBulk d + 1
 end
def uptoSmall : (H : Type) → List (DataW H) → Bool := fun _ ds => decide (uptoBulkAll ds ≤ 1048576)
def OpenSpec.upto (s : _root_.Go.ChangeSpec) : _root_.Go.OpenSpec := { _root_.Go.OpenSpec.ofChange s with cond := some uptoSmall }

/-- 'harpsichordlaw04.PlatterAll', WHERE WHAT IT READS IS OF BULK AT MOST 1048576: true; the input reads as it did. -/
def platterAllUptoRow : OpenClaim := { program := "ytpgoacemjpobjaa", sum := "717acacb7c5863ba9ed1792662323b0c2b9ab0d3d3d4e49d2f082e8c8232ff51", func := "harpsichord/harpsichordlaw04.PlatterAll", spec := "platterAll", apart := false, narrowed := true }
def PlatterAllUptoSaid : Prop := platterAllUptoRow.holds Try.pinned (OpenSpec.upto platterAllSpec)

/-- 'harpsichordlaw04.PlatterFinds', WHERE WHAT IT READS IS OF BULK AT MOST 1048576: true; the input reads as it did. -/
def platterFindsUptoRow : OpenClaim := { program := "ytpgoacemjpobjaa", sum := "717acacb7c5863ba9ed1792662323b0c2b9ab0d3d3d4e49d2f082e8c8232ff51", func := "harpsichord/harpsichordlaw04.PlatterFinds", spec := "platterFinds", apart := false, narrowed := true }
def PlatterFindsUptoSaid : Prop := platterFindsUptoRow.holds Try.pinned (OpenSpec.upto platterFindsSpec)

/-- 'harpsichordlaw04.PlatterLasts', WHERE WHAT IT READS IS OF BULK AT MOST 1048576: true; the input reads as it did. -/
def platterLastsUptoRow : OpenClaim := { program := "ytpgoacemjpobjaa", sum := "717acacb7c5863ba9ed1792662323b0c2b9ab0d3d3d4e49d2f082e8c8232ff51", func := "harpsichord/harpsichordlaw04.PlatterLasts", spec := "platterLasts", apart := false, narrowed := true }
def PlatterLastsUptoSaid : Prop := platterLastsUptoRow.holds Try.pinned (OpenSpec.upto platterLastsSpec)

/-- 'harpsichordlaw04.PlatterApart', WHERE WHAT IT READS IS OF BULK AT MOST 1048576: true; the input reads as it did. -/
def platterApartUptoRow : OpenClaim := { program := "ytpgoacemjpobjaa", sum := "717acacb7c5863ba9ed1792662323b0c2b9ab0d3d3d4e49d2f082e8c8232ff51", func := "harpsichord/harpsichordlaw04.PlatterApart", spec := "platterApart", apart := false, narrowed := true }
def PlatterApartUptoSaid : Prop := platterApartUptoRow.holds Try.pinned (OpenSpec.upto platterApartSpec)

/-- 'harpsichordlaw04.PlatterWhole', WHERE WHAT IT READS IS OF BULK AT MOST 1048576: true; the input reads as it did. -/
def platterWholeUptoRow : OpenClaim := { program := "ytpgoacemjpobjaa", sum := "717acacb7c5863ba9ed1792662323b0c2b9ab0d3d3d4e49d2f082e8c8232ff51", func := "harpsichord/harpsichordlaw04.PlatterWhole", spec := "platterWhole", apart := false, narrowed := true }
def PlatterWholeUptoSaid : Prop := platterWholeUptoRow.holds Try.pinned (OpenSpec.upto platterWholeSpec)

/-- 'harpsichordlaw04.PlatterReads', WHERE WHAT IT READS IS OF BULK AT MOST 1048576: true; the input reads as it did. -/
def platterReadsUptoRow : OpenClaim := { program := "ytpgoacemjpobjaa", sum := "717acacb7c5863ba9ed1792662323b0c2b9ab0d3d3d4e49d2f082e8c8232ff51", func := "harpsichord/harpsichordlaw04.PlatterReads", spec := "platterReads", apart := false, narrowed := true }
def PlatterReadsUptoSaid : Prop := platterReadsUptoRow.holds Try.pinned (OpenSpec.upto platterReadsSpec)

end Rows
end Go.Proofs.Ytpgoacemjpobjaa
