/-
  No cell of these rows narrows 'for every input' (looked for: loops, veiled, ifaces, maps, wideKeys, modest, calm, conditions, laid).
  DERIVED. THE GIVEN ROWS OF THIS SEAT. 7 by the template 'for every input the law returns true; each argument reads behind the call as it read before'; 0 by the template 'total and deterministic' (their statements: YtdiboicllolcnaaTotals.lean).
  GIVEN WITH THE SEED: the statements are not yours to turn. If you find one false, say at which input.
  Laid BY PROGRAM, IN A SANDBOX (cutbox-rows.mjs): the forced cells as the released guide's own fill.sh prints them over the translation 67387c124fcb28a2… (all of the seat's roots in one cut). By AI agents, Wed Nov 11 2026. No macro, syntax, notation, axiom, sorry.
-/
import Derived.Test.YtdiboicllolcnaaChecked
import GoSem.Claim
import GoSem.ClaimJoined
import GoSem.ClaimMapViews
import Derived.JoinedTies
import Derived.KernelRfl
namespace Go.Proofs.Ytdiboicllolcnaa
/- THE CELL 'sum', in the pinned program and in every row, IS THE sha256 OF THE DUMP (.gsa) THAT YtdiboicllolcnaaProg.lean LOADS. Nothing in Lean hashes anything: it is a label: what it is worth is what the hold of that sum in a sandbox is worth. -/
noncomputable def Try.pinned : Pinned := { name := "ytdiboicllolcnaa", sum := "67387c124fcb28a2902d43abd169919cec46128aca0b35e9c49b4193b6c5b063", checked := Try.checked }
namespace Rows
def none {H : Type} : Left H := { results := [], args := [] }

/-- 'harpsichordlaw05.LedgerRoom': WHATEVER THE INPUT: true; the input reads as it did. -/
def ledgerRoomSpec : ChangeSpec := { name := "ledgerRoom", fn := fun _ => fun
  | [d1, d2] => { results := [.lit (.bool true)], args := [d1, d2] }
  | _ => none }
def ledgerRoomRow : OpenClaim := { program := "ytdiboicllolcnaa", sum := "67387c124fcb28a2902d43abd169919cec46128aca0b35e9c49b4193b6c5b063", func := "harpsichord/harpsichordlaw05.LedgerRoom", spec := "ledgerRoom", apart := false }
def LedgerRoomSaid : Prop := ledgerRoomRow.holds Try.pinned (OpenSpec.ofChange ledgerRoomSpec)

/-- ITS FALSE NEIGHBOUR: 'it returns false'. Refute it at one input. -/
def ledgerRoomWrong : ChangeSpec := { name := "ledgerRoom", fn := fun _ => fun
  | [d1, d2] => { results := [.lit (.bool false)], args := [d1, d2] }
  | _ => none }
def LedgerRoomWrongFalsely : Prop := ledgerRoomRow.holds Try.pinned (OpenSpec.ofChange ledgerRoomWrong)

/-- 'harpsichordlaw05.LedgerRaw': WHATEVER THE INPUT: true; the input reads as it did. -/
def ledgerRawSpec : ChangeSpec := { name := "ledgerRaw", fn := fun _ => fun
  | [d1, d2, d3] => { results := [.lit (.bool true)], args := [d1, d2, d3] }
  | _ => none }
def ledgerRawRow : OpenClaim := { program := "ytdiboicllolcnaa", sum := "67387c124fcb28a2902d43abd169919cec46128aca0b35e9c49b4193b6c5b063", func := "harpsichord/harpsichordlaw05.LedgerRaw", spec := "ledgerRaw", apart := false }
def LedgerRawSaid : Prop := ledgerRawRow.holds Try.pinned (OpenSpec.ofChange ledgerRawSpec)

/-- ITS FALSE NEIGHBOUR: 'it returns false'. Refute it at one input. -/
def ledgerRawWrong : ChangeSpec := { name := "ledgerRaw", fn := fun _ => fun
  | [d1, d2, d3] => { results := [.lit (.bool false)], args := [d1, d2, d3] }
  | _ => none }
def LedgerRawWrongFalsely : Prop := ledgerRawRow.holds Try.pinned (OpenSpec.ofChange ledgerRawWrong)

/-- 'harpsichordlaw05.LedgerApart': WHATEVER THE INPUT: true; the input reads as it did. -/
def ledgerApartSpec : ChangeSpec := { name := "ledgerApart", fn := fun _ => fun
  | [d1, d2] => { results := [.lit (.bool true)], args := [d1, d2] }
  | _ => none }
def ledgerApartRow : OpenClaim := { program := "ytdiboicllolcnaa", sum := "67387c124fcb28a2902d43abd169919cec46128aca0b35e9c49b4193b6c5b063", func := "harpsichord/harpsichordlaw05.LedgerApart", spec := "ledgerApart", apart := false }
def LedgerApartSaid : Prop := ledgerApartRow.holds Try.pinned (OpenSpec.ofChange ledgerApartSpec)

/-- ITS FALSE NEIGHBOUR: 'it returns false'. Refute it at one input. -/
def ledgerApartWrong : ChangeSpec := { name := "ledgerApart", fn := fun _ => fun
  | [d1, d2] => { results := [.lit (.bool false)], args := [d1, d2] }
  | _ => none }
def LedgerApartWrongFalsely : Prop := ledgerApartRow.holds Try.pinned (OpenSpec.ofChange ledgerApartWrong)

/-- 'harpsichordlaw05.LedgerOwn': WHATEVER THE INPUT: true; the input reads as it did. -/
def ledgerOwnSpec : ChangeSpec := { name := "ledgerOwn", fn := fun _ => fun
  | [d1, d2] => { results := [.lit (.bool true)], args := [d1, d2] }
  | _ => none }
def ledgerOwnRow : OpenClaim := { program := "ytdiboicllolcnaa", sum := "67387c124fcb28a2902d43abd169919cec46128aca0b35e9c49b4193b6c5b063", func := "harpsichord/harpsichordlaw05.LedgerOwn", spec := "ledgerOwn", apart := false }
def LedgerOwnSaid : Prop := ledgerOwnRow.holds Try.pinned (OpenSpec.ofChange ledgerOwnSpec)

/-- ITS FALSE NEIGHBOUR: 'it returns false'. Refute it at one input. -/
def ledgerOwnWrong : ChangeSpec := { name := "ledgerOwn", fn := fun _ => fun
  | [d1, d2] => { results := [.lit (.bool false)], args := [d1, d2] }
  | _ => none }
def LedgerOwnWrongFalsely : Prop := ledgerOwnRow.holds Try.pinned (OpenSpec.ofChange ledgerOwnWrong)

/-- 'harpsichordlaw05.LedgerAll': WHATEVER THE INPUT: true; the input reads as it did. -/
def ledgerAllSpec : ChangeSpec := { name := "ledgerAll", fn := fun _ => fun
  | [d1, d2] => { results := [.lit (.bool true)], args := [d1, d2] }
  | _ => none }
def ledgerAllRow : OpenClaim := { program := "ytdiboicllolcnaa", sum := "67387c124fcb28a2902d43abd169919cec46128aca0b35e9c49b4193b6c5b063", func := "harpsichord/harpsichordlaw05.LedgerAll", spec := "ledgerAll", apart := false }
def LedgerAllSaid : Prop := ledgerAllRow.holds Try.pinned (OpenSpec.ofChange ledgerAllSpec)

/-- ITS FALSE NEIGHBOUR: 'it returns false'. Refute it at one input. -/
def ledgerAllWrong : ChangeSpec := { name := "ledgerAll", fn := fun _ => fun
  | [d1, d2] => { results := [.lit (.bool false)], args := [d1, d2] }
  | _ => none }
def LedgerAllWrongFalsely : Prop := ledgerAllRow.holds Try.pinned (OpenSpec.ofChange ledgerAllWrong)

/-- 'harpsichordlaw05.LedgerSame': WHATEVER THE INPUT: true; the input reads as it did. -/
def ledgerSameSpec : ChangeSpec := { name := "ledgerSame", fn := fun _ => fun
  | [d1, d2] => { results := [.lit (.bool true)], args := [d1, d2] }
  | _ => none }
def ledgerSameRow : OpenClaim := { program := "ytdiboicllolcnaa", sum := "67387c124fcb28a2902d43abd169919cec46128aca0b35e9c49b4193b6c5b063", func := "harpsichord/harpsichordlaw05.LedgerSame", spec := "ledgerSame", apart := false }
def LedgerSameSaid : Prop := ledgerSameRow.holds Try.pinned (OpenSpec.ofChange ledgerSameSpec)

/-- ITS FALSE NEIGHBOUR: 'it returns false'. Refute it at one input. -/
def ledgerSameWrong : ChangeSpec := { name := "ledgerSame", fn := fun _ => fun
  | [d1, d2] => { results := [.lit (.bool false)], args := [d1, d2] }
  | _ => none }
def LedgerSameWrongFalsely : Prop := ledgerSameRow.holds Try.pinned (OpenSpec.ofChange ledgerSameWrong)

/-- 'harpsichordlaw05.LedgerCrash': WHATEVER THE INPUT: true; the input reads as it did. -/
def ledgerCrashSpec : ChangeSpec := { name := "ledgerCrash", fn := fun _ => fun
  | [d1, d2, d3] => { results := [.lit (.bool true)], args := [d1, d2, d3] }
  | _ => none }
def ledgerCrashRow : OpenClaim := { program := "ytdiboicllolcnaa", sum := "67387c124fcb28a2902d43abd169919cec46128aca0b35e9c49b4193b6c5b063", func := "harpsichord/harpsichordlaw05.LedgerCrash", spec := "ledgerCrash", apart := false }
def LedgerCrashSaid : Prop := ledgerCrashRow.holds Try.pinned (OpenSpec.ofChange ledgerCrashSpec)

/-- ITS FALSE NEIGHBOUR: 'it returns false'. Refute it at one input. -/
def ledgerCrashWrong : ChangeSpec := { name := "ledgerCrash", fn := fun _ => fun
  | [d1, d2, d3] => { results := [.lit (.bool false)], args := [d1, d2, d3] }
  | _ => none }
def LedgerCrashWrongFalsely : Prop := ledgerCrashRow.holds Try.pinned (OpenSpec.ofChange ledgerCrashWrong)

/- THE SECOND FORM. 'bulk': how many values and letters a reading holds, each counted each time it is reached (what is shared counts as often as it is met; a slice's spare places count too). A statement '..UptoSaid' is the law's where the arguments, and the package variables that the reading takes, are together of bulk at most 1048576: NARROWER than '..Said'. Prove '..Said' where nothing that the law and all that it calls make is longer than what came in: it says more and counts as full. Else prove '..UptoSaid'. A law counts once. -/
mutual
def uptoBulk {H : Type} : DataW H → Nat
  | .lit (.string bytes) => bytes.length + 1
  | .lit _ => 1
  | .nil => 1
  | .ptr d => uptoBulk d + 1
  | .slice elems spare => uptoBulkAll elems + uptoBulkAll spare + 1
  | .agg parts => uptoBulkAll parts + 1
  | .iface _ d => uptoBulk d + 1
  | .map entries => uptoBulkEntries entries + 1
  | .held _ => 1
def uptoBulkAll {H : Type} : List (DataW H) → Nat
  | [] => 0
  | d :: r => uptoBulk d + uptoBulkAll r
def uptoBulkEntries {H : Type} : List (Lit × DataW H) → Nat
  | [] => 0
  | x :: r => uptoBulkEntry x + uptoBulkEntries r
def uptoBulkEntry {H : Type} : Lit × DataW H → Nat
  | (.string bytes, d) => bytes.length + uptoBulk d + 1
  | (_, d) => uptoBulk d + 1
 end
def uptoSmall : (H : Type) → List (DataW H) → Bool := fun _ ds => decide (uptoBulkAll ds ≤ 1048576)
def OpenSpec.upto (s : _root_.Go.ChangeSpec) : _root_.Go.OpenSpec := { _root_.Go.OpenSpec.ofChange s with cond := some uptoSmall }

/-- 'harpsichordlaw05.LedgerRoom', WHERE WHAT IT READS IS OF BULK AT MOST 1048576: true; the input reads as it did. -/
def ledgerRoomUptoRow : OpenClaim := { program := "ytdiboicllolcnaa", sum := "67387c124fcb28a2902d43abd169919cec46128aca0b35e9c49b4193b6c5b063", func := "harpsichord/harpsichordlaw05.LedgerRoom", spec := "ledgerRoom", apart := false, narrowed := true }
def LedgerRoomUptoSaid : Prop := ledgerRoomUptoRow.holds Try.pinned (OpenSpec.upto ledgerRoomSpec)

/-- 'harpsichordlaw05.LedgerRaw', WHERE WHAT IT READS IS OF BULK AT MOST 1048576: true; the input reads as it did. -/
def ledgerRawUptoRow : OpenClaim := { program := "ytdiboicllolcnaa", sum := "67387c124fcb28a2902d43abd169919cec46128aca0b35e9c49b4193b6c5b063", func := "harpsichord/harpsichordlaw05.LedgerRaw", spec := "ledgerRaw", apart := false, narrowed := true }
def LedgerRawUptoSaid : Prop := ledgerRawUptoRow.holds Try.pinned (OpenSpec.upto ledgerRawSpec)

/-- 'harpsichordlaw05.LedgerApart', WHERE WHAT IT READS IS OF BULK AT MOST 1048576: true; the input reads as it did. -/
def ledgerApartUptoRow : OpenClaim := { program := "ytdiboicllolcnaa", sum := "67387c124fcb28a2902d43abd169919cec46128aca0b35e9c49b4193b6c5b063", func := "harpsichord/harpsichordlaw05.LedgerApart", spec := "ledgerApart", apart := false, narrowed := true }
def LedgerApartUptoSaid : Prop := ledgerApartUptoRow.holds Try.pinned (OpenSpec.upto ledgerApartSpec)

/-- 'harpsichordlaw05.LedgerOwn', WHERE WHAT IT READS IS OF BULK AT MOST 1048576: true; the input reads as it did. -/
def ledgerOwnUptoRow : OpenClaim := { program := "ytdiboicllolcnaa", sum := "67387c124fcb28a2902d43abd169919cec46128aca0b35e9c49b4193b6c5b063", func := "harpsichord/harpsichordlaw05.LedgerOwn", spec := "ledgerOwn", apart := false, narrowed := true }
def LedgerOwnUptoSaid : Prop := ledgerOwnUptoRow.holds Try.pinned (OpenSpec.upto ledgerOwnSpec)

/-- 'harpsichordlaw05.LedgerAll', WHERE WHAT IT READS IS OF BULK AT MOST 1048576: true; the input reads as it did. -/
def ledgerAllUptoRow : OpenClaim := { program := "ytdiboicllolcnaa", sum := "67387c124fcb28a2902d43abd169919cec46128aca0b35e9c49b4193b6c5b063", func := "harpsichord/harpsichordlaw05.LedgerAll", spec := "ledgerAll", apart := false, narrowed := true }
def LedgerAllUptoSaid : Prop := ledgerAllUptoRow.holds Try.pinned (OpenSpec.upto ledgerAllSpec)

/-- 'harpsichordlaw05.LedgerSame', WHERE WHAT IT READS IS OF BULK AT MOST 1048576: true; the input reads as it did. -/
def ledgerSameUptoRow : OpenClaim := { program := "ytdiboicllolcnaa", sum := "67387c124fcb28a2902d43abd169919cec46128aca0b35e9c49b4193b6c5b063", func := "harpsichord/harpsichordlaw05.LedgerSame", spec := "ledgerSame", apart := false, narrowed := true }
def LedgerSameUptoSaid : Prop := ledgerSameUptoRow.holds Try.pinned (OpenSpec.upto ledgerSameSpec)

/-- 'harpsichordlaw05.LedgerCrash', WHERE WHAT IT READS IS OF BULK AT MOST 1048576: true; the input reads as it did. -/
def ledgerCrashUptoRow : OpenClaim := { program := "ytdiboicllolcnaa", sum := "67387c124fcb28a2902d43abd169919cec46128aca0b35e9c49b4193b6c5b063", func := "harpsichord/harpsichordlaw05.LedgerCrash", spec := "ledgerCrash", apart := false, narrowed := true }
def LedgerCrashUptoSaid : Prop := ledgerCrashUptoRow.holds Try.pinned (OpenSpec.upto ledgerCrashSpec)

end Rows
end Go.Proofs.Ytdiboicllolcnaa
