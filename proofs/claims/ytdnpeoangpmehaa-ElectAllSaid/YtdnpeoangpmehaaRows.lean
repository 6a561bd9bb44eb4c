/-
  No cell of these rows narrows 'for every input' (looked for: loops, veiled, ifaces, maps, wideKeys, modest, calm, conditions, laid).
  DERIVED. THE GIVEN ROWS OF THIS SEAT. 6 by the template 'for every input the law returns true; each argument reads behind the call as it read before'; 0 by the template 'total and deterministic' (their statements: YtdnpeoangpmehaaTotals.lean).
  GIVEN WITH THE SEED: the statements are not yours to turn. If you find one false, say at which input.
  Laid BY PROGRAM, IN A SANDBOX (cutbox-rows.mjs): the forced cells as the released guide's own fill.sh prints them over the translation 7f8b00d38bd5c1d7… (all of the seat's roots in one cut). By AI agents, Wed Nov 11 2026. No macro, syntax, notation, axiom, sorry.
-/
import Derived.Test.YtdnpeoangpmehaaChecked
import GoSem.Claim
import GoSem.ClaimJoined
import GoSem.ClaimMapViews
import Derived.JoinedTies
import Derived.KernelRfl
namespace Go.Proofs.Ytdnpeoangpmehaa
/- THE CELL 'sum', in the pinned program and in every row, IS THE sha256 OF THE DUMP (.gsa) THAT YtdnpeoangpmehaaProg.lean LOADS. Nothing in Lean hashes anything: it is a label: what it is worth is what the hold of that sum in a sandbox is worth. -/
noncomputable def Try.pinned : Pinned := { name := "ytdnpeoangpmehaa", sum := "7f8b00d38bd5c1d717c575b9f3707e49ede7106b3ea4f5f7762e51a112f1dc96", checked := Try.checked }
namespace Rows
def none {H : Type} : Left H := { results := [], args := [] }

/-- 'harpsichordlaw14.ElectNudges': WHATEVER THE INPUT: true; the input reads as it did. -/
def electNudgesSpec : ChangeSpec := { name := "electNudges", fn := fun _ => fun
  | [d1, d2] => { results := [.lit (.bool true)], args := [d1, d2] }
  | _ => none }
def electNudgesRow : OpenClaim := { program := "ytdnpeoangpmehaa", sum := "7f8b00d38bd5c1d717c575b9f3707e49ede7106b3ea4f5f7762e51a112f1dc96", func := "harpsichord/harpsichordlaw14.ElectNudges", spec := "electNudges", apart := false }
def ElectNudgesSaid : Prop := electNudgesRow.holds Try.pinned (OpenSpec.ofChange electNudgesSpec)

/-- ITS FALSE NEIGHBOUR: 'it returns false'. Refute it at one input. -/
def electNudgesWrong : ChangeSpec := { name := "electNudges", fn := fun _ => fun
  | [d1, d2] => { results := [.lit (.bool false)], args := [d1, d2] }
  | _ => none }
def ElectNudgesWrongFalsely : Prop := electNudgesRow.holds Try.pinned (OpenSpec.ofChange electNudgesWrong)

/-- 'harpsichordlaw14.ElectApart': WHATEVER THE INPUT: true; the input reads as it did. -/
def electApartSpec : ChangeSpec := { name := "electApart", fn := fun _ => fun
  | [d1, d2] => { results := [.lit (.bool true)], args := [d1, d2] }
  | _ => none }
def electApartRow : OpenClaim := { program := "ytdnpeoangpmehaa", sum := "7f8b00d38bd5c1d717c575b9f3707e49ede7106b3ea4f5f7762e51a112f1dc96", func := "harpsichord/harpsichordlaw14.ElectApart", spec := "electApart", apart := false }
def ElectApartSaid : Prop := electApartRow.holds Try.pinned (OpenSpec.ofChange electApartSpec)

/-- ITS FALSE NEIGHBOUR: 'it returns false'. Refute it at one input. -/
def electApartWrong : ChangeSpec := { name := "electApart", fn := fun _ => fun
  | [d1, d2] => { results := [.lit (.bool false)], args := [d1, d2] }
  | _ => none }
def ElectApartWrongFalsely : Prop := electApartRow.holds Try.pinned (OpenSpec.ofChange electApartWrong)

/-- 'harpsichordlaw14.ElectAll': WHATEVER THE INPUT: true; the input reads as it did. -/
def electAllSpec : ChangeSpec := { name := "electAll", fn := fun _ => fun
  | [d1, d2] => { results := [.lit (.bool true)], args := [d1, d2] }
  | _ => none }
def electAllRow : OpenClaim := { program := "ytdnpeoangpmehaa", sum := "7f8b00d38bd5c1d717c575b9f3707e49ede7106b3ea4f5f7762e51a112f1dc96", func := "harpsichord/harpsichordlaw14.ElectAll", spec := "electAll", apart := false }
def ElectAllSaid : Prop := electAllRow.holds Try.pinned (OpenSpec.ofChange electAllSpec)

/-- ITS FALSE NEIGHBOUR: 'it returns false'. Refute it at one input. -/
def electAllWrong : ChangeSpec := { name := "electAll", fn := fun _ => fun
  | [d1, d2] => { results := [.lit (.bool false)], args := [d1, d2] }
  | _ => none }
def ElectAllWrongFalsely : Prop := electAllRow.holds Try.pinned (OpenSpec.ofChange electAllWrong)

/-- 'harpsichordlaw14.ElectHears': WHATEVER THE INPUT: true; the input reads as it did. -/
def electHearsSpec : ChangeSpec := { name := "electHears", fn := fun _ => fun
  | [d1, d2] => { results := [.lit (.bool true)], args := [d1, d2] }
  | _ => none }
def electHearsRow : OpenClaim := { program := "ytdnpeoangpmehaa", sum := "7f8b00d38bd5c1d717c575b9f3707e49ede7106b3ea4f5f7762e51a112f1dc96", func := "harpsichord/harpsichordlaw14.ElectHears", spec := "electHears", apart := false }
def ElectHearsSaid : Prop := electHearsRow.holds Try.pinned (OpenSpec.ofChange electHearsSpec)

/-- ITS FALSE NEIGHBOUR: 'it returns false'. Refute it at one input. -/
def electHearsWrong : ChangeSpec := { name := "electHears", fn := fun _ => fun
  | [d1, d2] => { results := [.lit (.bool false)], args := [d1, d2] }
  | _ => none }
def ElectHearsWrongFalsely : Prop := electHearsRow.holds Try.pinned (OpenSpec.ofChange electHearsWrong)

/-- 'harpsichordlaw14.ElectBounds': WHATEVER THE INPUT: true; the input reads as it did. -/
def electBoundsSpec : ChangeSpec := { name := "electBounds", fn := fun _ => fun
  | [d1, d2] => { results := [.lit (.bool true)], args := [d1, d2] }
  | _ => none }
def electBoundsRow : OpenClaim := { program := "ytdnpeoangpmehaa", sum := "7f8b00d38bd5c1d717c575b9f3707e49ede7106b3ea4f5f7762e51a112f1dc96", func := "harpsichord/harpsichordlaw14.ElectBounds", spec := "electBounds", apart := false }
def ElectBoundsSaid : Prop := electBoundsRow.holds Try.pinned (OpenSpec.ofChange electBoundsSpec)

/-- ITS FALSE NEIGHBOUR: 'it returns false'. Refute it at one input. -/
def electBoundsWrong : ChangeSpec := { name := "electBounds", fn := fun _ => fun
  | [d1, d2] => { results := [.lit (.bool false)], args := [d1, d2] }
  | _ => none }
def ElectBoundsWrongFalsely : Prop := electBoundsRow.holds Try.pinned (OpenSpec.ofChange electBoundsWrong)

/-- 'harpsichordlaw14.ElectViews': WHATEVER THE INPUT: true; the input reads as it did. -/
def electViewsSpec : ChangeSpec := { name := "electViews", fn := fun _ => fun
  | [d1, d2, d3] => { results := [.lit (.bool true)], args := [d1, d2, d3] }
  | _ => none }
def electViewsRow : OpenClaim := { program := "ytdnpeoangpmehaa", sum := "7f8b00d38bd5c1d717c575b9f3707e49ede7106b3ea4f5f7762e51a112f1dc96", func := "harpsichord/harpsichordlaw14.ElectViews", spec := "electViews", apart := false }
def ElectViewsSaid : Prop := electViewsRow.holds Try.pinned (OpenSpec.ofChange electViewsSpec)

/-- ITS FALSE NEIGHBOUR: 'it returns false'. Refute it at one input. -/
def electViewsWrong : ChangeSpec := { name := "electViews", fn := fun _ => fun
  | [d1, d2, d3] => { results := [.lit (.bool false)], args := [d1, d2, d3] }
  | _ => none }
def ElectViewsWrongFalsely : Prop := electViewsRow.holds Try.pinned (OpenSpec.ofChange electViewsWrong)

/- THE SECOND FORM. 'bulk': how many values and letters a reading holds, each counted each time it is reached (what is shared counts as often as it is met; a slice's spare places count too). A statement '..UptoSaid' is the law's where the arguments, and the package variables that the reading takes, are together of bulk at most 1048576: NARROWER than '..Said'. Prove '..Said' where nothing that the law and all that it calls make is longer than what came in: it says more and counts as full. Else prove '..UptoSaid'. A law counts once. -/
mutual
def uptoBulk {H : Type} : DataW H → Nat
  | .lit (.string bytes) => bytes.length + 1
  | .lit _ => 1
  | .nil => 1
  | .ptr d => uptoBulk d + 1
  | .slice elems spare => uptoBulkAll elems + uptoBulkAll spare + 1
  | .agg parts => uptoBulkAll parts + 1
  | .iface _ d => uptoBulk d + 1
  | .map entries => uptoBulkEntries entries + 1
  | .held _ => 1
def uptoBulkAll {H : Type} : List (DataW H) → Nat
  | [] => 0
  | d :: r => uptoBulk d + uptoBulkAll r
def uptoBulkEntries {H : Type} : List (Lit × DataW H) → Nat
  | [] => 0
  | x :: r => uptoBulkEntry x + uptoBulkEntries r
def uptoBulkEntry {H : Type} : Lit × DataW H → Nat
  | (.string bytes, d) => bytes.length + uptoBulk d + 1
  | (_, d) => uptoBulk d + 1
 end
def uptoSmall : (H : Type) → List (DataW H) → Bool := fun _ ds => decide (uptoBulkAll ds ≤ 1048576)
def OpenSpec.upto (s : _root_.Go.ChangeSpec) : _root_.Go.OpenSpec := { _root_.Go.OpenSpec.ofChange s with cond := some uptoSmall }

/-- 'harpsichordlaw14.ElectNudges', WHERE WHAT IT READS IS OF BULK AT MOST 1048576: true; the input reads as it did. -/
def electNudgesUptoRow : OpenClaim := { program := "ytdnpeoangpmehaa", sum := "7f8b00d38bd5c1d717c575b9f3707e49ede7106b3ea4f5f7762e51a112f1dc96", func := "harpsichord/harpsichordlaw14.ElectNudges", spec := "electNudges", apart := false, narrowed := true }
def ElectNudgesUptoSaid : Prop := electNudgesUptoRow.holds Try.pinned (OpenSpec.upto electNudgesSpec)

/-- 'harpsichordlaw14.ElectApart', WHERE WHAT IT READS IS OF BULK AT MOST 1048576: true; the input reads as it did. -/
def electApartUptoRow : OpenClaim := { program := "ytdnpeoangpmehaa", sum := "7f8b00d38bd5c1d717c575b9f3707e49ede7106b3ea4f5f7762e51a112f1dc96", func := "harpsichord/harpsichordlaw14.ElectApart", spec := "electApart", apart := false, narrowed := true }
def ElectApartUptoSaid : Prop := electApartUptoRow.holds Try.pinned (OpenSpec.upto electApartSpec)

/-- 'harpsichordlaw14.ElectAll', WHERE WHAT IT READS IS OF BULK AT MOST 1048576: true; the input reads as it did. -/
def electAllUptoRow : OpenClaim := { program := "ytdnpeoangpmehaa", sum := "7f8b00d38bd5c1d717c575b9f3707e49ede7106b3ea4f5f7762e51a112f1dc96", func := "harpsichord/harpsichordlaw14.ElectAll", spec := "electAll", apart := false, narrowed := true }
def ElectAllUptoSaid : Prop := electAllUptoRow.holds Try.pinned (OpenSpec.upto electAllSpec)

/-- 'harpsichordlaw14.ElectHears', WHERE WHAT IT READS IS OF BULK AT MOST 1048576: true; the input reads as it did. -/
def electHearsUptoRow : OpenClaim := { program := "ytdnpeoangpmehaa", sum := "7f8b00d38bd5c1d717c575b9f3707e49ede7106b3ea4f5f7762e51a112f1dc96", func := "harpsichord/harpsichordlaw14.ElectHears", spec := "electHears", apart := false, narrowed := true }
def ElectHearsUptoSaid : Prop := electHearsUptoRow.holds Try.pinned (OpenSpec.upto electHearsSpec)

/-- 'harpsichordlaw14.ElectBounds', WHERE WHAT IT READS IS OF BULK AT MOST 1048576: true; the input reads as it did. -/
def electBoundsUptoRow : OpenClaim := { program := "ytdnpeoangpmehaa", sum := "7f8b00d38bd5c1d717c575b9f3707e49ede7106b3ea4f5f7762e51a112f1dc96", func := "harpsichord/harpsichordlaw14.ElectBounds", spec := "electBounds", apart := false, narrowed := true }
def ElectBoundsUptoSaid : Prop := electBoundsUptoRow.holds Try.pinned (OpenSpec.upto electBoundsSpec)

/-- 'harpsichordlaw14.ElectViews', WHERE WHAT IT READS IS OF BULK AT MOST 1048576: true; the input reads as it did. -/
def electViewsUptoRow : OpenClaim := { program := "ytdnpeoangpmehaa", sum := "7f8b00d38bd5c1d717c575b9f3707e49ede7106b3ea4f5f7762e51a112f1dc96", func := "harpsichord/harpsichordlaw14.ElectViews", spec := "electViews", apart := false, narrowed := true }
def ElectViewsUptoSaid : Prop := electViewsUptoRow.holds Try.pinned (OpenSpec.upto electViewsSpec)

end Rows
end Go.Proofs.Ytdnpeoangpmehaa
