/-
  No cell of these rows narrows 'for every input' (looked for: loops, veiled, ifaces, maps, wideKeys, modest, calm, conditions, laid).
  DERIVED. THE GIVEN ROWS OF THIS SEAT. 7 by the template 'for every input the law returns true; each argument reads behind the call as it read before'; 0 by the template 'total and deterministic' (their statements: YtncjnalpfhafpaaTotals.lean).
  GIVEN WITH THE SEED: the statements are not yours to turn. If you find one false, say at which input.
  Laid BY PROGRAM, IN A SANDBOX (cutbox-rows.mjs): the forced cells as the released guide's own fill.sh prints them over the translation 762a0755e4cda949… (all of the seat's roots in one cut). By AI agents, Wed Nov 11 2026. No macro, syntax, notation, axiom, sorry.
-/
import Derived.Test.YtncjnalpfhafpaaChecked
import GoSem.Claim
import GoSem.ClaimJoined
import GoSem.ClaimMapViews
import Derived.JoinedTies
import Derived.KernelRfl
namespace Go.Proofs.Ytncjnalpfhafpaa
/- THE CELL 'sum', in the pinned program and in every row, IS THE sha256 OF THE DUMP (.gsa) THAT YtncjnalpfhafpaaProg.lean LOADS. Nothing in Lean hashes anything: it is a label: what it is worth is what the hold of that sum in a sandbox is worth. -/
noncomputable def Try.pinned : Pinned := { name := "ytncjnalpfhafpaa", sum := "762a0755e4cda9490652c8047d2c66f4d7b3a5fae16a6ade96bca71307de1137", checked := Try.checked }
namespace Rows
def none {H : Type} : Left H := { results := [], args := [] }

/-- 'harpsichordlaw01.TallySums': WHATEVER THE INPUT: true; the input reads as it did. -/
def tallySumsSpec : ChangeSpec := { name := "tallySums", fn := fun _ => fun
  | [d] => { results := [.lit (.bool true)], args := [d] }
  | _ => none }
def tallySumsRow : OpenClaim := { program := "ytncjnalpfhafpaa", sum := "762a0755e4cda9490652c8047d2c66f4d7b3a5fae16a6ade96bca71307de1137", func := "harpsichord/harpsichordlaw01.TallySums", spec := "tallySums", apart := false }
def TallySumsSaid : Prop := tallySumsRow.holds Try.pinned (OpenSpec.ofChange tallySumsSpec)

/-- ITS FALSE NEIGHBOUR: 'it returns false'. Refute it at one input. -/
def tallySumsWrong : ChangeSpec := { name := "tallySums", fn := fun _ => fun
  | [d] => { results := [.lit (.bool false)], args := [d] }
  | _ => none }
def TallySumsWrongFalsely : Prop := tallySumsRow.holds Try.pinned (OpenSpec.ofChange tallySumsWrong)

/-- 'harpsichordlaw01.TallyMores': WHATEVER THE INPUT: true; the input reads as it did. -/
def tallyMoresSpec : ChangeSpec := { name := "tallyMores", fn := fun _ => fun
  | [d1, d2] => { results := [.lit (.bool true)], args := [d1, d2] }
  | _ => none }
def tallyMoresRow : OpenClaim := { program := "ytncjnalpfhafpaa", sum := "762a0755e4cda9490652c8047d2c66f4d7b3a5fae16a6ade96bca71307de1137", func := "harpsichord/harpsichordlaw01.TallyMores", spec := "tallyMores", apart := false }
def TallyMoresSaid : Prop := tallyMoresRow.holds Try.pinned (OpenSpec.ofChange tallyMoresSpec)

/-- ITS FALSE NEIGHBOUR: 'it returns false'. Refute it at one input. -/
def tallyMoresWrong : ChangeSpec := { name := "tallyMores", fn := fun _ => fun
  | [d1, d2] => { results := [.lit (.bool false)], args := [d1, d2] }
  | _ => none }
def TallyMoresWrongFalsely : Prop := tallyMoresRow.holds Try.pinned (OpenSpec.ofChange tallyMoresWrong)

/-- 'harpsichordlaw01.TallyJoins': WHATEVER THE INPUT: true; the input reads as it did. -/
def tallyJoinsSpec : ChangeSpec := { name := "tallyJoins", fn := fun _ => fun
  | [d1, d2] => { results := [.lit (.bool true)], args := [d1, d2] }
  | _ => none }
def tallyJoinsRow : OpenClaim := { program := "ytncjnalpfhafpaa", sum := "762a0755e4cda9490652c8047d2c66f4d7b3a5fae16a6ade96bca71307de1137", func := "harpsichord/harpsichordlaw01.TallyJoins", spec := "tallyJoins", apart := false }
def TallyJoinsSaid : Prop := tallyJoinsRow.holds Try.pinned (OpenSpec.ofChange tallyJoinsSpec)

/-- ITS FALSE NEIGHBOUR: 'it returns false'. Refute it at one input. -/
def tallyJoinsWrong : ChangeSpec := { name := "tallyJoins", fn := fun _ => fun
  | [d1, d2] => { results := [.lit (.bool false)], args := [d1, d2] }
  | _ => none }
def TallyJoinsWrongFalsely : Prop := tallyJoinsRow.holds Try.pinned (OpenSpec.ofChange tallyJoinsWrong)

/-- 'harpsichordlaw01.TallyBursts': WHATEVER THE INPUT: true; the input reads as it did. -/
def tallyBurstsSpec : ChangeSpec := { name := "tallyBursts", fn := fun _ => fun
  | [d1, d2, d3] => { results := [.lit (.bool true)], args := [d1, d2, d3] }
  | _ => none }
def tallyBurstsRow : OpenClaim := { program := "ytncjnalpfhafpaa", sum := "762a0755e4cda9490652c8047d2c66f4d7b3a5fae16a6ade96bca71307de1137", func := "harpsichord/harpsichordlaw01.TallyBursts", spec := "tallyBursts", apart := false }
def TallyBurstsSaid : Prop := tallyBurstsRow.holds Try.pinned (OpenSpec.ofChange tallyBurstsSpec)

/-- ITS FALSE NEIGHBOUR: 'it returns false'. Refute it at one input. -/
def tallyBurstsWrong : ChangeSpec := { name := "tallyBursts", fn := fun _ => fun
  | [d1, d2, d3] => { results := [.lit (.bool false)], args := [d1, d2, d3] }
  | _ => none }
def TallyBurstsWrongFalsely : Prop := tallyBurstsRow.holds Try.pinned (OpenSpec.ofChange tallyBurstsWrong)

/-- 'harpsichordlaw01.TallyXors': WHATEVER THE INPUT: true; the input reads as it did. -/
def tallyXorsSpec : ChangeSpec := { name := "tallyXors", fn := fun _ => fun
  | [d1, d2, d3] => { results := [.lit (.bool true)], args := [d1, d2, d3] }
  | _ => none }
def tallyXorsRow : OpenClaim := { program := "ytncjnalpfhafpaa", sum := "762a0755e4cda9490652c8047d2c66f4d7b3a5fae16a6ade96bca71307de1137", func := "harpsichord/harpsichordlaw01.TallyXors", spec := "tallyXors", apart := false }
def TallyXorsSaid : Prop := tallyXorsRow.holds Try.pinned (OpenSpec.ofChange tallyXorsSpec)

/-- ITS FALSE NEIGHBOUR: 'it returns false'. Refute it at one input. -/
def tallyXorsWrong : ChangeSpec := { name := "tallyXors", fn := fun _ => fun
  | [d1, d2, d3] => { results := [.lit (.bool false)], args := [d1, d2, d3] }
  | _ => none }
def TallyXorsWrongFalsely : Prop := tallyXorsRow.holds Try.pinned (OpenSpec.ofChange tallyXorsWrong)

/-- 'harpsichordlaw01.TallyZeros': WHATEVER THE INPUT: true; the input reads as it did. -/
def tallyZerosSpec : ChangeSpec := { name := "tallyZeros", fn := fun _ => fun
  | [d1, d2] => { results := [.lit (.bool true)], args := [d1, d2] }
  | _ => none }
def tallyZerosRow : OpenClaim := { program := "ytncjnalpfhafpaa", sum := "762a0755e4cda9490652c8047d2c66f4d7b3a5fae16a6ade96bca71307de1137", func := "harpsichord/harpsichordlaw01.TallyZeros", spec := "tallyZeros", unfollowed := true, recurses := true, apart := false }
def TallyZerosSaid : Prop := tallyZerosRow.holds Try.pinned (OpenSpec.ofChange tallyZerosSpec)

/-- ITS FALSE NEIGHBOUR: 'it returns false'. Refute it at one input. -/
def tallyZerosWrong : ChangeSpec := { name := "tallyZeros", fn := fun _ => fun
  | [d1, d2] => { results := [.lit (.bool false)], args := [d1, d2] }
  | _ => none }
def TallyZerosWrongFalsely : Prop := tallyZerosRow.holds Try.pinned (OpenSpec.ofChange tallyZerosWrong)

/-- 'harpsichordlaw01.TallyTwice': WHATEVER THE INPUT: true; the input reads as it did. -/
def tallyTwiceSpec : ChangeSpec := { name := "tallyTwice", fn := fun _ => fun
  | [d1, d2, d3] => { results := [.lit (.bool true)], args := [d1, d2, d3] }
  | _ => none }
def tallyTwiceRow : OpenClaim := { program := "ytncjnalpfhafpaa", sum := "762a0755e4cda9490652c8047d2c66f4d7b3a5fae16a6ade96bca71307de1137", func := "harpsichord/harpsichordlaw01.TallyTwice", spec := "tallyTwice", unfollowed := true, recurses := true, apart := false }
def TallyTwiceSaid : Prop := tallyTwiceRow.holds Try.pinned (OpenSpec.ofChange tallyTwiceSpec)

/-- ITS FALSE NEIGHBOUR: 'it returns false'. Refute it at one input. -/
def tallyTwiceWrong : ChangeSpec := { name := "tallyTwice", fn := fun _ => fun
  | [d1, d2, d3] => { results := [.lit (.bool false)], args := [d1, d2, d3] }
  | _ => none }
def TallyTwiceWrongFalsely : Prop := tallyTwiceRow.holds Try.pinned (OpenSpec.ofChange tallyTwiceWrong)

/- THE SECOND FORM. 'bulk': how many values and letters a reading holds, each counted each time it is reached (what is shared counts as often as it is met; a slice's spare places count too). A statement '..UptoSaid' is the law's where the arguments, and the package variables that the reading takes, are together of bulk at most 1048576: NARROWER than '..Said'. Prove '..Said' where nothing that the law and all that it calls make is longer than what came in: it says more and counts as full. Else prove '..UptoSaid'. A law counts once. -/
mutual
def uptoBulk {H : Type} : DataW H → Nat
  | .lit (.string bytes) => bytes.length + 1
  | .lit _ => 1
  | .nil => 1
  | .ptr d => uptoBulk d + 1
  | .slice elems spare => uptoBulkAll elems + uptoBulkAll spare + 1
  | .agg parts => uptoBulkAll parts + 1
  | .iface _ d => uptoBulk d + 1
  | .map entries => uptoBulkEntries entries + 1
  | .held _ => 1
def uptoBulkAll {H : Type} : List (DataW H) → Nat
  | [] => 0
  | d :: r => uptoBulk d + uptoBulkAll r
def uptoBulkEntries {H : Type} : List (Lit × DataW H) → Nat
  | [] => 0
  | x :: r => uptoBulkEntry x + uptoBulkEntries r
def uptoBulkEntry {H : Type} : Lit × DataW H → Nat
  | (.string bytes, d) => bytes.length + uptoBulk d + 1
  | (_, d) => uptoBulk d + 1
 end
def uptoSmall : (H : Type) → List (DataW H) → Bool := fun _ ds => decide (uptoBulkAll ds ≤ 1048576)
def OpenSpec.upto (s : _root_.Go.ChangeSpec) : _root_.Go.OpenSpec := { _root_.Go.OpenSpec.ofChange s with cond := some uptoSmall }

/-- 'harpsichordlaw01.TallySums', WHERE WHAT IT READS IS OF BULK AT MOST 1048576: true; the input reads as it did. -/
def tallySumsUptoRow : OpenClaim := { program := "ytncjnalpfhafpaa", sum := "762a0755e4cda9490652c8047d2c66f4d7b3a5fae16a6ade96bca71307de1137", func := "harpsichord/harpsichordlaw01.TallySums", spec := "tallySums", apart := false, narrowed := true }
def TallySumsUptoSaid : Prop := tallySumsUptoRow.holds Try.pinned (OpenSpec.upto tallySumsSpec)

/-- 'harpsichordlaw01.TallyMores', WHERE WHAT IT READS IS OF BULK AT MOST 1048576: true; the input reads as it did. -/
def tallyMoresUptoRow : OpenClaim := { program := "ytncjnalpfhafpaa", sum := "762a0755e4cda9490652c8047d2c66f4d7b3a5fae16a6ade96bca71307de1137", func := "harpsichord/harpsichordlaw01.TallyMores", spec := "tallyMores", apart := false, narrowed := true }
def TallyMoresUptoSaid : Prop := tallyMoresUptoRow.holds Try.pinned (OpenSpec.upto tallyMoresSpec)

/-- 'harpsichordlaw01.TallyJoins', WHERE WHAT IT READS IS OF BULK AT MOST 1048576: true; the input reads as it did. -/
def tallyJoinsUptoRow : OpenClaim := { program := "ytncjnalpfhafpaa", sum := "762a0755e4cda9490652c8047d2c66f4d7b3a5fae16a6ade96bca71307de1137", func := "harpsichord/harpsichordlaw01.TallyJoins", spec := "tallyJoins", apart := false, narrowed := true }
def TallyJoinsUptoSaid : Prop := tallyJoinsUptoRow.holds Try.pinned (OpenSpec.upto tallyJoinsSpec)

/-- 'harpsichordlaw01.TallyBursts', WHERE WHAT IT READS IS OF BULK AT MOST 1048576: true; the input reads as it did. -/
def tallyBurstsUptoRow : OpenClaim := { program := "ytncjnalpfhafpaa", sum := "762a0755e4cda9490652c8047d2c66f4d7b3a5fae16a6ade96bca71307de1137", func := "harpsichord/harpsichordlaw01.TallyBursts", spec := "tallyBursts", apart := false, narrowed := true }
def TallyBurstsUptoSaid : Prop := tallyBurstsUptoRow.holds Try.pinned (OpenSpec.upto tallyBurstsSpec)

/-- 'harpsichordlaw01.TallyXors', WHERE WHAT IT READS IS OF BULK AT MOST 1048576: true; the input reads as it did. -/
def tallyXorsUptoRow : OpenClaim := { program := "ytncjnalpfhafpaa", sum := "762a0755e4cda9490652c8047d2c66f4d7b3a5fae16a6ade96bca71307de1137", func := "harpsichord/harpsichordlaw01.TallyXors", spec := "tallyXors", apart := false, narrowed := true }
def TallyXorsUptoSaid : Prop := tallyXorsUptoRow.holds Try.pinned (OpenSpec.upto tallyXorsSpec)

/-- 'harpsichordlaw01.TallyZeros', WHERE WHAT IT READS IS OF BULK AT MOST 1048576: true; the input reads as it did. -/
def tallyZerosUptoRow : OpenClaim := { program := "ytncjnalpfhafpaa", sum := "762a0755e4cda9490652c8047d2c66f4d7b3a5fae16a6ade96bca71307de1137", func := "harpsichord/harpsichordlaw01.TallyZeros", spec := "tallyZeros", unfollowed := true, recurses := true, apart := false, narrowed := true }
def TallyZerosUptoSaid : Prop := tallyZerosUptoRow.holds Try.pinned (OpenSpec.upto tallyZerosSpec)

/-- 'harpsichordlaw01.TallyTwice', WHERE WHAT IT READS IS OF BULK AT MOST 1048576: true; the input reads as it did. -/
def tallyTwiceUptoRow : OpenClaim := { program := "ytncjnalpfhafpaa", sum := "762a0755e4cda9490652c8047d2c66f4d7b3a5fae16a6ade96bca71307de1137", func := "harpsichord/harpsichordlaw01.TallyTwice", spec := "tallyTwice", unfollowed := true, recurses := true, apart := false, narrowed := true }
def TallyTwiceUptoSaid : Prop := tallyTwiceUptoRow.holds Try.pinned (OpenSpec.upto tallyTwiceSpec)

end Rows
end Go.Proofs.Ytncjnalpfhafpaa
