/-
  No cell of these rows narrows 'for every input' (looked for: loops, veiled, ifaces, maps, wideKeys, modest, calm, conditions, laid).
  DERIVED. THE GIVEN ROWS OF THIS SEAT. 6 by the template 'for every input the law returns true; each argument reads behind the call as it read before'; 0 by the template 'total and deterministic' (their statements: YtkgnooogppkieaaTotals.lean).
  GIVEN WITH THE SEED: the statements are not yours to turn. If you find one false, say at which input.
  Laid BY PROGRAM, IN A SANDBOX (cutbox-rows.mjs): the forced cells as the released guide's own fill.sh prints them over the translation a69343c9fef67d3a… (all of the seat's roots in one cut). By AI agents, Wed Nov 11 2026. No macro, syntax, notation, axiom, sorry.
-/
import Derived.Test.YtkgnooogppkieaaChecked
import GoSem.Claim
import GoSem.ClaimJoined
import GoSem.ClaimMapViews
import Derived.JoinedTies
import Derived.KernelRfl
namespace Go.Proofs.Ytkgnooogppkieaa
/- THE CELL 'sum', in the pinned program and in every row, IS THE sha256 OF THE DUMP (.gsa) THAT YtkgnooogppkieaaProg.lean LOADS. Nothing in Lean hashes anything: it is a label: what it is worth is what the hold of that sum in a sandbox is worth. -/
noncomputable def Try.pinned : Pinned := { name := "ytkgnooogppkieaa", sum := "a69343c9fef67d3ae81a5a13147445c728e7395348cdb00082ee20311d96c35b", checked := Try.checked }
namespace Rows
def none {H : Type} : Left H := { results := [], args := [] }

/-- 'harpsichordlaw10.LeaseFull': WHATEVER THE INPUT: true; the input reads as it did. -/
def leaseFullSpec : ChangeSpec := { name := "leaseFull", fn := fun _ => fun
  | [d1, d2, d3] => { results := [.lit (.bool true)], args := [d1, d2, d3] }
  | _ => none }
def leaseFullRow : OpenClaim := { program := "ytkgnooogppkieaa", sum := "a69343c9fef67d3ae81a5a13147445c728e7395348cdb00082ee20311d96c35b", func := "harpsichord/harpsichordlaw10.LeaseFull", spec := "leaseFull", inPlace := ["slices.overlaps[harpsichord/lease.Lease]"], unfollowed := true, recurses := true, apart := false }
def LeaseFullSaid : Prop := leaseFullRow.holds Try.pinned (OpenSpec.ofChange leaseFullSpec)

/-- ITS FALSE NEIGHBOUR: 'it returns false'. Refute it at one input. -/
def leaseFullWrong : ChangeSpec := { name := "leaseFull", fn := fun _ => fun
  | [d1, d2, d3] => { results := [.lit (.bool false)], args := [d1, d2, d3] }
  | _ => none }
def LeaseFullWrongFalsely : Prop := leaseFullRow.holds Try.pinned (OpenSpec.ofChange leaseFullWrong)

/-- 'harpsichordlaw10.LeaseLate': WHATEVER THE INPUT: true; the input reads as it did. -/
def leaseLateSpec : ChangeSpec := { name := "leaseLate", fn := fun _ => fun
  | [d1, d2, d3] => { results := [.lit (.bool true)], args := [d1, d2, d3] }
  | _ => none }
def leaseLateRow : OpenClaim := { program := "ytkgnooogppkieaa", sum := "a69343c9fef67d3ae81a5a13147445c728e7395348cdb00082ee20311d96c35b", func := "harpsichord/harpsichordlaw10.LeaseLate", spec := "leaseLate", inPlace := ["slices.overlaps[harpsichord/lease.Lease]"], unfollowed := true, recurses := true, apart := false }
def LeaseLateSaid : Prop := leaseLateRow.holds Try.pinned (OpenSpec.ofChange leaseLateSpec)

/-- ITS FALSE NEIGHBOUR: 'it returns false'. Refute it at one input. -/
def leaseLateWrong : ChangeSpec := { name := "leaseLate", fn := fun _ => fun
  | [d1, d2, d3] => { results := [.lit (.bool false)], args := [d1, d2, d3] }
  | _ => none }
def LeaseLateWrongFalsely : Prop := leaseLateRow.holds Try.pinned (OpenSpec.ofChange leaseLateWrong)

/-- 'harpsichordlaw10.LeaseRenews': WHATEVER THE INPUT: true; the input reads as it did. -/
def leaseRenewsSpec : ChangeSpec := { name := "leaseRenews", fn := fun _ => fun
  | [d1, d2, d3] => { results := [.lit (.bool true)], args := [d1, d2, d3] }
  | _ => none }
def leaseRenewsRow : OpenClaim := { program := "ytkgnooogppkieaa", sum := "a69343c9fef67d3ae81a5a13147445c728e7395348cdb00082ee20311d96c35b", func := "harpsichord/harpsichordlaw10.LeaseRenews", spec := "leaseRenews", inPlace := ["slices.overlaps[harpsichord/lease.Lease]"], unfollowed := true, recurses := true, apart := false }
def LeaseRenewsSaid : Prop := leaseRenewsRow.holds Try.pinned (OpenSpec.ofChange leaseRenewsSpec)

/-- ITS FALSE NEIGHBOUR: 'it returns false'. Refute it at one input. -/
def leaseRenewsWrong : ChangeSpec := { name := "leaseRenews", fn := fun _ => fun
  | [d1, d2, d3] => { results := [.lit (.bool false)], args := [d1, d2, d3] }
  | _ => none }
def LeaseRenewsWrongFalsely : Prop := leaseRenewsRow.holds Try.pinned (OpenSpec.ofChange leaseRenewsWrong)

/-- 'harpsichordlaw10.LeaseApart': WHATEVER THE INPUT: true; the input reads as it did. -/
def leaseApartSpec : ChangeSpec := { name := "leaseApart", fn := fun _ => fun
  | [d1, d2] => { results := [.lit (.bool true)], args := [d1, d2] }
  | _ => none }
def leaseApartRow : OpenClaim := { program := "ytkgnooogppkieaa", sum := "a69343c9fef67d3ae81a5a13147445c728e7395348cdb00082ee20311d96c35b", func := "harpsichord/harpsichordlaw10.LeaseApart", spec := "leaseApart", inPlace := ["slices.overlaps[harpsichord/lease.Lease]"], unfollowed := true, recurses := true, apart := false }
def LeaseApartSaid : Prop := leaseApartRow.holds Try.pinned (OpenSpec.ofChange leaseApartSpec)

/-- ITS FALSE NEIGHBOUR: 'it returns false'. Refute it at one input. -/
def leaseApartWrong : ChangeSpec := { name := "leaseApart", fn := fun _ => fun
  | [d1, d2] => { results := [.lit (.bool false)], args := [d1, d2] }
  | _ => none }
def LeaseApartWrongFalsely : Prop := leaseApartRow.holds Try.pinned (OpenSpec.ofChange leaseApartWrong)

/-- 'harpsichordlaw10.LeaseAll': WHATEVER THE INPUT: true; the input reads as it did. -/
def leaseAllSpec : ChangeSpec := { name := "leaseAll", fn := fun _ => fun
  | [d1, d2, d3] => { results := [.lit (.bool true)], args := [d1, d2, d3] }
  | _ => none }
def leaseAllRow : OpenClaim := { program := "ytkgnooogppkieaa", sum := "a69343c9fef67d3ae81a5a13147445c728e7395348cdb00082ee20311d96c35b", func := "harpsichord/harpsichordlaw10.LeaseAll", spec := "leaseAll", inPlace := ["slices.overlaps[harpsichord/lease.Lease]"], unfollowed := true, recurses := true, apart := false }
def LeaseAllSaid : Prop := leaseAllRow.holds Try.pinned (OpenSpec.ofChange leaseAllSpec)

/-- ITS FALSE NEIGHBOUR: 'it returns false'. Refute it at one input. -/
def leaseAllWrong : ChangeSpec := { name := "leaseAll", fn := fun _ => fun
  | [d1, d2, d3] => { results := [.lit (.bool false)], args := [d1, d2, d3] }
  | _ => none }
def LeaseAllWrongFalsely : Prop := leaseAllRow.holds Try.pinned (OpenSpec.ofChange leaseAllWrong)

/-- 'harpsichordlaw10.LeaseLoads': WHATEVER THE INPUT: true; the input reads as it did. -/
def leaseLoadsSpec : ChangeSpec := { name := "leaseLoads", fn := fun _ => fun
  | [d1, d2] => { results := [.lit (.bool true)], args := [d1, d2] }
  | _ => none }
def leaseLoadsRow : OpenClaim := { program := "ytkgnooogppkieaa", sum := "a69343c9fef67d3ae81a5a13147445c728e7395348cdb00082ee20311d96c35b", func := "harpsichord/harpsichordlaw10.LeaseLoads", spec := "leaseLoads", inPlace := ["slices.overlaps[harpsichord/lease.Lease]"], unfollowed := true, recurses := true, apart := false }
def LeaseLoadsSaid : Prop := leaseLoadsRow.holds Try.pinned (OpenSpec.ofChange leaseLoadsSpec)

/-- ITS FALSE NEIGHBOUR: 'it returns false'. Refute it at one input. -/
def leaseLoadsWrong : ChangeSpec := { name := "leaseLoads", fn := fun _ => fun
  | [d1, d2] => { results := [.lit (.bool false)], args := [d1, d2] }
  | _ => none }
def LeaseLoadsWrongFalsely : Prop := leaseLoadsRow.holds Try.pinned (OpenSpec.ofChange leaseLoadsWrong)

/- THE SECOND FORM. 'bulk': how many values and letters a reading holds, each counted each time it is reached (what is shared counts as often as it is met; a slice's spare places count too). A statement '..UptoSaid' is the law's where the arguments, and the package variables that the reading takes, are together of bulk at most 1048576: NARROWER than '..Said'. Prove '..Said' where nothing that the law and all that it calls make is longer than what came in: it says more and counts as full. Else prove '..UptoSaid'. A law counts once. -/
mutual
def uptoBulk {H : Type} : DataW H → Nat
  | .lit (.string bytes) => bytes.length + 1
  | .lit _ => 1
  | .nil => 1
  | .ptr d => uptoBulk d + 1
  | .slice elems spare => uptoBulkAll elems + uptoBulkAll spare + 1
  | .agg parts => uptoBulkAll parts + 1
  | .iface _ d => uptoBulk d + 1
  | .map entries => uptoBulkEntries entries + 1
  | .held _ => 1
def uptoBulkAll {H : Type} : List (DataW H) → Nat
  | [] => 0
  | d :: r => uptoBulk d + uptoBulkAll r
def uptoBulkEntries {H : Type} : List (Lit × DataW H) → Nat
  | [] => 0
  | x :: r => uptoBulkEntry x + uptoBulkEntries r
def uptoBulkEntry {H : Type} : Lit × DataW H → Nat
  | (.string bytes, d) => bytes.length + uptoBulk d + 1
  | (_, d) => uptoBulk d + 1
 end
def uptoSmall : (H : Type) → List (DataW H) → Bool := fun _ ds => decide (uptoBulkAll ds ≤ 1048576)
def OpenSpec.upto (s : _root_.Go.ChangeSpec) : _root_.Go.OpenSpec := { _root_.Go.OpenSpec.ofChange s with cond := some uptoSmall }

/-- 'harpsichordlaw10.LeaseFull', WHERE WHAT IT READS IS OF BULK AT MOST 1048576: true; the input reads as it did. -/
def leaseFullUptoRow : OpenClaim := { program := "ytkgnooogppkieaa", sum := "a69343c9fef67d3ae81a5a13147445c728e7395348cdb00082ee20311d96c35b", func := "harpsichord/harpsichordlaw10.LeaseFull", spec := "leaseFull", inPlace := ["slices.overlaps[harpsichord/lease.Lease]"], unfollowed := true, recurses := true, apart := false, narrowed := true }
def LeaseFullUptoSaid : Prop := leaseFullUptoRow.holds Try.pinned (OpenSpec.upto leaseFullSpec)

/-- 'harpsichordlaw10.LeaseLate', WHERE WHAT IT READS IS OF BULK AT MOST 1048576: true; the input reads as it did. -/
def leaseLateUptoRow : OpenClaim := { program := "ytkgnooogppkieaa", sum := "a69343c9fef67d3ae81a5a13147445c728e7395348cdb00082ee20311d96c35b", func := "harpsichord/harpsichordlaw10.LeaseLate", spec := "leaseLate", inPlace := ["slices.overlaps[harpsichord/lease.Lease]"], unfollowed := true, recurses := true, apart := false, narrowed := true }
def LeaseLateUptoSaid : Prop := leaseLateUptoRow.holds Try.pinned (OpenSpec.upto leaseLateSpec)

/-- 'harpsichordlaw10.LeaseRenews', WHERE WHAT IT READS IS OF BULK AT MOST 1048576: true; the input reads as it did. -/
def leaseRenewsUptoRow : OpenClaim := { program := "ytkgnooogppkieaa", sum := "a69343c9fef67d3ae81a5a13147445c728e7395348cdb00082ee20311d96c35b", func := "harpsichord/harpsichordlaw10.LeaseRenews", spec := "leaseRenews", inPlace := ["slices.overlaps[harpsichord/lease.Lease]"], unfollowed := true, recurses := true, apart := false, narrowed := true }
def LeaseRenewsUptoSaid : Prop := leaseRenewsUptoRow.holds Try.pinned (OpenSpec.upto leaseRenewsSpec)

/-- 'harpsichordlaw10.LeaseApart', WHERE WHAT IT READS IS OF BULK AT MOST 1048576: true; the input reads as it did. -/
def leaseApartUptoRow : OpenClaim := { program := "ytkgnooogppkieaa", sum := "a69343c9fef67d3ae81a5a13147445c728e7395348cdb00082ee20311d96c35b", func := "harpsichord/harpsichordlaw10.LeaseApart", spec := "leaseApart", inPlace := ["slices.overlaps[harpsichord/lease.Lease]"], unfollowed := true, recurses := true, apart := false, narrowed := true }
def LeaseApartUptoSaid : Prop := leaseApartUptoRow.holds Try.pinned (OpenSpec.upto leaseApartSpec)

/-- 'harpsichordlaw10.LeaseAll', WHERE WHAT IT READS IS OF BULK AT MOST 1048576: true; the input reads as it did. -/
def leaseAllUptoRow : OpenClaim := { program := "ytkgnooogppkieaa", sum := "a69343c9fef67d3ae81a5a13147445c728e7395348cdb00082ee20311d96c35b", func := "harpsichord/harpsichordlaw10.LeaseAll", spec := "leaseAll", inPlace := ["slices.overlaps[harpsichord/lease.Lease]"], unfollowed := true, recurses := true, apart := false, narrowed := true }
def LeaseAllUptoSaid : Prop := leaseAllUptoRow.holds Try.pinned (OpenSpec.upto leaseAllSpec)

/-- 'harpsichordlaw10.LeaseLoads', WHERE WHAT IT READS IS OF BULK AT MOST 1048576: true; the input reads as it did. -/
def leaseLoadsUptoRow : OpenClaim := { program := "ytkgnooogppkieaa", sum := "a69343c9fef67d3ae81a5a13147445c728e7395348cdb00082ee20311d96c35b", func := "harpsichord/harpsichordlaw10.LeaseLoads", spec := "leaseLoads", inPlace := ["slices.overlaps[harpsichord/lease.Lease]"], unfollowed := true, recurses := true, apart := false, narrowed := true }
def LeaseLoadsUptoSaid : Prop := leaseLoadsUptoRow.holds Try.pinned (OpenSpec.upto leaseLoadsSpec)

end Rows
end Go.Proofs.Ytkgnooogppkieaa
