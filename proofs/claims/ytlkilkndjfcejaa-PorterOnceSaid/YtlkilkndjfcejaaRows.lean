/-
  No cell of these rows narrows 'for every input' (looked for: loops, veiled, ifaces, maps, wideKeys, modest, calm, conditions, laid).
  DERIVED. THE GIVEN ROWS OF THIS SEAT. 4 by the template 'for every input the law returns true; each argument reads behind the call as it read before'; 0 by the template 'total and deterministic' (their statements: YtlkilkndjfcejaaTotals.lean).
  GIVEN WITH THE SEED: the statements are not yours to turn. If you find one false, say at which input.
  Laid BY PROGRAM, IN A SANDBOX (cutbox-rows.mjs): the forced cells as the released guide's own fill.sh prints them over the translation 61a0e5c1a39687aa… (all of the seat's roots in one cut). By AI agents, Wed Nov 11 2026. No macro, syntax, notation, axiom, sorry.
-/
import Derived.Test.YtlkilkndjfcejaaChecked
import GoSem.Claim
import GoSem.ClaimJoined
import GoSem.ClaimMapViews
import Derived.JoinedTies
import Derived.KernelRfl
namespace Go.Proofs.Ytlkilkndjfcejaa
/- THE CELL 'sum', in the pinned program and in every row, IS THE sha256 OF THE DUMP (.gsa) THAT YtlkilkndjfcejaaProg.lean LOADS. Nothing in Lean hashes anything: it is a label: what it is worth is what the hold of that sum in a sandbox is worth. -/
noncomputable def Try.pinned : Pinned := { name := "ytlkilkndjfcejaa", sum := "61a0e5c1a39687aa8e2663b49b8394080050b0abf7d7ace5bf837ec37fa1a291", checked := Try.checked }
namespace Rows
def none {H : Type} : Left H := { results := [], args := [] }

/-- 'harpsichordlaw21.PorterOnce': WHATEVER THE INPUT: true; the input reads as it did. -/
def porterOnceSpec : ChangeSpec := { name := "porterOnce", fn := fun _ => fun
  | [d1, d2] => { results := [.lit (.bool true)], args := [d1, d2] }
  | _ => none }
def porterOnceRow : OpenClaim := { program := "ytlkilkndjfcejaa", sum := "61a0e5c1a39687aa8e2663b49b8394080050b0abf7d7ace5bf837ec37fa1a291", func := "harpsichord/harpsichordlaw21.PorterOnce", spec := "porterOnce", unfollowed := true, recurses := true, apart := false }
def PorterOnceSaid : Prop := porterOnceRow.holds Try.pinned (OpenSpec.ofChange porterOnceSpec)

/-- ITS FALSE NEIGHBOUR: 'it returns false'. Refute it at one input. -/
def porterOnceWrong : ChangeSpec := { name := "porterOnce", fn := fun _ => fun
  | [d1, d2] => { results := [.lit (.bool false)], args := [d1, d2] }
  | _ => none }
def PorterOnceWrongFalsely : Prop := porterOnceRow.holds Try.pinned (OpenSpec.ofChange porterOnceWrong)

/-- 'harpsichordlaw21.PorterTurns': WHATEVER THE INPUT: true; the input reads as it did. -/
def porterTurnsSpec : ChangeSpec := { name := "porterTurns", fn := fun _ => fun
  | [d1, d2] => { results := [.lit (.bool true)], args := [d1, d2] }
  | _ => none }
def porterTurnsRow : OpenClaim := { program := "ytlkilkndjfcejaa", sum := "61a0e5c1a39687aa8e2663b49b8394080050b0abf7d7ace5bf837ec37fa1a291", func := "harpsichord/harpsichordlaw21.PorterTurns", spec := "porterTurns", unfollowed := true, recurses := true, apart := false }
def PorterTurnsSaid : Prop := porterTurnsRow.holds Try.pinned (OpenSpec.ofChange porterTurnsSpec)

/-- ITS FALSE NEIGHBOUR: 'it returns false'. Refute it at one input. -/
def porterTurnsWrong : ChangeSpec := { name := "porterTurns", fn := fun _ => fun
  | [d1, d2] => { results := [.lit (.bool false)], args := [d1, d2] }
  | _ => none }
def PorterTurnsWrongFalsely : Prop := porterTurnsRow.holds Try.pinned (OpenSpec.ofChange porterTurnsWrong)

/-- 'harpsichordlaw21.PorterEnds': WHATEVER THE INPUT: true; the input reads as it did. -/
def porterEndsSpec : ChangeSpec := { name := "porterEnds", fn := fun _ => fun
  | [d1, d2, d3] => { results := [.lit (.bool true)], args := [d1, d2, d3] }
  | _ => none }
def porterEndsRow : OpenClaim := { program := "ytlkilkndjfcejaa", sum := "61a0e5c1a39687aa8e2663b49b8394080050b0abf7d7ace5bf837ec37fa1a291", func := "harpsichord/harpsichordlaw21.PorterEnds", spec := "porterEnds", unfollowed := true, recurses := true, apart := false }
def PorterEndsSaid : Prop := porterEndsRow.holds Try.pinned (OpenSpec.ofChange porterEndsSpec)

/-- ITS FALSE NEIGHBOUR: 'it returns false'. Refute it at one input. -/
def porterEndsWrong : ChangeSpec := { name := "porterEnds", fn := fun _ => fun
  | [d1, d2, d3] => { results := [.lit (.bool false)], args := [d1, d2, d3] }
  | _ => none }
def PorterEndsWrongFalsely : Prop := porterEndsRow.holds Try.pinned (OpenSpec.ofChange porterEndsWrong)

/-- 'harpsichordlaw21.PorterAll': WHATEVER THE INPUT: true; the input reads as it did. -/
def porterAllSpec : ChangeSpec := { name := "porterAll", fn := fun _ => fun
  | [d1, d2] => { results := [.lit (.bool true)], args := [d1, d2] }
  | _ => none }
def porterAllRow : OpenClaim := { program := "ytlkilkndjfcejaa", sum := "61a0e5c1a39687aa8e2663b49b8394080050b0abf7d7ace5bf837ec37fa1a291", func := "harpsichord/harpsichordlaw21.PorterAll", spec := "porterAll", unfollowed := true, recurses := true, apart := false }
def PorterAllSaid : Prop := porterAllRow.holds Try.pinned (OpenSpec.ofChange porterAllSpec)

/-- ITS FALSE NEIGHBOUR: 'it returns false'. Refute it at one input. -/
def porterAllWrong : ChangeSpec := { name := "porterAll", fn := fun _ => fun
  | [d1, d2] => { results := [.lit (.bool false)], args := [d1, d2] }
  | _ => none }
def PorterAllWrongFalsely : Prop := porterAllRow.holds Try.pinned (OpenSpec.ofChange porterAllWrong)

/- THE SECOND FORM. 'bulk': how many values and letters a reading holds, each counted each time it is reached (what is shared counts as often as it is met; a slice's spare places count too). A statement '..UptoSaid' is the law's where the arguments, and the package variables that the reading takes, are together of bulk at most 1048576: NARROWER than '..Said'. Prove '..Said' where nothing that the law and all that it calls make is longer than what came in: it says more and counts as full. Else prove '..UptoSaid'. A law counts once. -/
mutual
def uptoBulk {H : Type} : DataW H → Nat
  | .lit (.string bytes) => bytes.length + 1
  | .lit _ => 1
  | .nil => 1
  | .ptr d => uptoBulk d + 1
  | .slice elems spare => uptoBulkAll elems + uptoBulkAll spare + 1
  | .agg parts => uptoBulkAll parts + 1
  | .iface _ d => uptoBulk d + 1
  | .map entries => uptoBulkEntries entries + 1
  | .held _ => 1
def uptoBulkAll {H : Type} : List (DataW H) → Nat
  | [] => 0
  | d :: r => uptoBulk d + uptoBulkAll r
def uptoBulkEntries {H : Type} : List (Lit × DataW H) → Nat
  | [] => 0
  | x :: r => uptoBulkEntry x + uptoBulkEntries r
def uptoBulkEntry {H : Type} : Lit × DataW H → Nat
  | (.string bytes, d) => bytes.length + uptoBulk d + 1
  | (_, d) => uptoBulk d + 1
 end
def uptoSmall : (H : Type) → List (DataW H) → Bool := fun _ ds => decide (uptoBulkAll ds ≤ 1048576)
def OpenSpec.upto (s : _root_.Go.ChangeSpec) : _root_.Go.OpenSpec := { _root_.Go.OpenSpec.ofChange s with cond := some uptoSmall }

/-- 'harpsichordlaw21.PorterOnce', WHERE WHAT IT READS IS OF BULK AT MOST 1048576: true; the input reads as it did. -/
def porterOnceUptoRow : OpenClaim := { program := "ytlkilkndjfcejaa", sum := "61a0e5c1a39687aa8e2663b49b8394080050b0abf7d7ace5bf837ec37fa1a291", func := "harpsichord/harpsichordlaw21.PorterOnce", spec := "porterOnce", unfollowed := true, recurses := true, apart := false, narrowed := true }
def PorterOnceUptoSaid : Prop := porterOnceUptoRow.holds Try.pinned (OpenSpec.upto porterOnceSpec)

/-- 'harpsichordlaw21.PorterTurns', WHERE WHAT IT READS IS OF BULK AT MOST 1048576: true; the input reads as it did. -/
def porterTurnsUptoRow : OpenClaim := { program := "ytlkilkndjfcejaa", sum := "61a0e5c1a39687aa8e2663b49b8394080050b0abf7d7ace5bf837ec37fa1a291", func := "harpsichord/harpsichordlaw21.PorterTurns", spec := "porterTurns", unfollowed := true, recurses := true, apart := false, narrowed := true }
def PorterTurnsUptoSaid : Prop := porterTurnsUptoRow.holds Try.pinned (OpenSpec.upto porterTurnsSpec)

/-- 'harpsichordlaw21.PorterEnds', WHERE WHAT IT READS IS OF BULK AT MOST 1048576: true; the input reads as it did. -/
def porterEndsUptoRow : OpenClaim := { program := "ytlkilkndjfcejaa", sum := "61a0e5c1a39687aa8e2663b49b8394080050b0abf7d7ace5bf837ec37fa1a291", func := "harpsichord/harpsichordlaw21.PorterEnds", spec := "porterEnds", unfollowed := true, recurses := true, apart := false, narrowed := true }
def PorterEndsUptoSaid : Prop := porterEndsUptoRow.holds Try.pinned (OpenSpec.upto porterEndsSpec)

/-- 'harpsichordlaw21.PorterAll', WHERE WHAT IT READS IS OF BULK AT MOST 1048576: true; the input reads as it did. -/
def porterAllUptoRow : OpenClaim := { program := "ytlkilkndjfcejaa", sum := "61a0e5c1a39687aa8e2663b49b8394080050b0abf7d7ace5bf837ec37fa1a291", func := "harpsichord/harpsichordlaw21.PorterAll", spec := "porterAll", unfollowed := true, recurses := true, apart := false, narrowed := true }
def PorterAllUptoSaid : Prop := porterAllUptoRow.holds Try.pinned (OpenSpec.upto porterAllSpec)

end Rows
end Go.Proofs.Ytlkilkndjfcejaa
