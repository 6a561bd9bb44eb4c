/-
  NARROWER THAN 'FOR EVERY INPUT', by the rows' own cells (each row's printed sentence says how): WatcherFull: laid · WatcherOnce: laid · WatcherDrops: laid · WatcherOrder: laid · WatcherAll: laid · WatcherApart: laid.
  DERIVED. THE GIVEN ROWS OF THIS SEAT. 6 by the template 'for every input the law returns true; each argument reads behind the call as it read before'; 0 by the template 'total and deterministic' (their statements: YtmcjpochpmiipaaDoorTotals.lean).
  GIVEN WITH THE SEED: the statements are not yours to turn. If you find one false, say at which input.
  Laid BY PROGRAM, IN A SANDBOX (cutbox-rows.mjs): the forced cells as the released guide's own fill.sh prints them over the translation a0447937855e1c91… (all of the seat's roots in one cut). By AI agents, Wed Nov 11 2026. No macro, syntax, notation, axiom, sorry.
-/
import Derived.Test.YtmcjpochpmiipaaDoorChecked
import GoSem.PinnedTables
import GoSem.Claim
import GoSem.ClaimJoined
import GoSem.ClaimMapViews
import Derived.JoinedTies
import Derived.KernelRfl
namespace Go.Proofs.YtmcjpochpmiipaaDoor
/- THE CELL 'sum', in the pinned program and in every row, IS THE sha256 OF THE DUMP (.gsa) THAT YtmcjpochpmiipaaDoorProg.lean LOADS. Nothing in Lean hashes anything: it is a label: what it is worth is what the hold of that sum in a sandbox is worth. -/
noncomputable def Tryd.pinned : Pinned := { name := "ytmcjpochpmiipaadoor", sum := "a0447937855e1c9150ea1ca1780c38b9a4e5a27d86540ef77211166f6de07f78", checked := Tryd.checked }
namespace Rows
def none {H : Type} : Left H := { results := [], args := [] }

/- WHAT THE LISTED PACKAGE-LEVEL VARIABLES READ AS WHEN THE CALL BEGINS. Each datum BY PROGRAM (the guide's laid-datum.mjs) off the statement by which the dump's own 'gosem.cut.vars' lays the variable. In a bare row this is a premise. The card (YtmcjpochpmiipaaDoorCards.lean) ties it to the program's text. -/
def laid_unicode_utf8_acceptRanges {H : Type} : DataW H := .agg [.agg [.lit (.int .u8 128), .lit (.int .u8 191)], .agg [.lit (.int .u8 160), .lit (.int .u8 191)], .agg [.lit (.int .u8 128), .lit (.int .u8 159)], .agg [.lit (.int .u8 144), .lit (.int .u8 191)], .agg [.lit (.int .u8 128), .lit (.int .u8 143)], .agg [.lit (.int .u8 0), .lit (.int .u8 0)], .agg [.lit (.int .u8 0), .lit (.int .u8 0)], .agg [.lit (.int .u8 0), .lit (.int .u8 0)], .agg [.lit (.int .u8 0), .lit (.int .u8 0)], .agg [.lit (.int .u8 0), .lit (.int .u8 0)], .agg [.lit (.int .u8 0), .lit (.int .u8 0)], .agg [.lit (.int .u8 0), .lit (.int .u8 0)], .agg [.lit (.int .u8 0), .lit (.int .u8 0)], .agg [.lit (.int .u8 0), .lit (.int .u8 0)], .agg [.lit (.int .u8 0), .lit (.int .u8 0)], .agg [.lit (.int .u8 0), .lit (.int .u8 0)]]
/-- One of Go's own tables, pinned by name: the form's constant. -/
def laid_unicode_utf8_first : DataW Unit := Go.Pinned.utf8First

/-- 'harpsichordlaw09.WatcherFull': WHATEVER THE INPUT: true; the input reads as it did. -/
def watcherFullSpec : ChangeSpec := { name := "watcherFull", fn := fun _ => fun
  | [d1, d2] => { results := [.lit (.bool true)], args := [d1, d2] }
  | _ => none }
def watcherFullRow : OpenClaim := { program := "ytmcjpochpmiipaadoor", sum := "a0447937855e1c9150ea1ca1780c38b9a4e5a27d86540ef77211166f6de07f78", func := "harpsichord/harpsichordlaw09.WatcherFull", spec := "watcherFull", inPlace := ["internal/bytealg.CountString", "internal/bytealg.IndexByteString", "internal/bytealg.IndexString", "slices.overlaps[harpsichord/watcher.Watch]"], unfollowed := true, recurses := true, named := ["unicode/utf8.first", "unicode/utf8.acceptRanges", "internal/bytealg.MaxLen"], apart := false, laid := [("unicode/utf8.acceptRanges", laid_unicode_utf8_acceptRanges), ("unicode/utf8.first", laid_unicode_utf8_first)] }
def WatcherFullSaid : Prop := watcherFullRow.holds Tryd.pinned (OpenSpec.ofChange watcherFullSpec)

/-- ITS FALSE NEIGHBOUR: 'it returns false'. Refute it at one input. -/
def watcherFullWrong : ChangeSpec := { name := "watcherFull", fn := fun _ => fun
  | [d1, d2] => { results := [.lit (.bool false)], args := [d1, d2] }
  | _ => none }
def WatcherFullWrongFalsely : Prop := watcherFullRow.holds Tryd.pinned (OpenSpec.ofChange watcherFullWrong)

/-- 'harpsichordlaw09.WatcherOnce': WHATEVER THE INPUT: true; the input reads as it did. -/
def watcherOnceSpec : ChangeSpec := { name := "watcherOnce", fn := fun _ => fun
  | [d1, d2] => { results := [.lit (.bool true)], args := [d1, d2] }
  | _ => none }
def watcherOnceRow : OpenClaim := { program := "ytmcjpochpmiipaadoor", sum := "a0447937855e1c9150ea1ca1780c38b9a4e5a27d86540ef77211166f6de07f78", func := "harpsichord/harpsichordlaw09.WatcherOnce", spec := "watcherOnce", inPlace := ["internal/bytealg.CountString", "internal/bytealg.IndexByteString", "internal/bytealg.IndexString", "slices.overlaps[harpsichord/watcher.Watch]"], unfollowed := true, recurses := true, named := ["unicode/utf8.first", "unicode/utf8.acceptRanges", "internal/bytealg.MaxLen"], apart := false, laid := [("unicode/utf8.acceptRanges", laid_unicode_utf8_acceptRanges), ("unicode/utf8.first", laid_unicode_utf8_first)] }
def WatcherOnceSaid : Prop := watcherOnceRow.holds Tryd.pinned (OpenSpec.ofChange watcherOnceSpec)

/-- ITS FALSE NEIGHBOUR: 'it returns false'. Refute it at one input. -/
def watcherOnceWrong : ChangeSpec := { name := "watcherOnce", fn := fun _ => fun
  | [d1, d2] => { results := [.lit (.bool false)], args := [d1, d2] }
  | _ => none }
def WatcherOnceWrongFalsely : Prop := watcherOnceRow.holds Tryd.pinned (OpenSpec.ofChange watcherOnceWrong)

/-- 'harpsichordlaw09.WatcherDrops': WHATEVER THE INPUT: true; the input reads as it did. -/
def watcherDropsSpec : ChangeSpec := { name := "watcherDrops", fn := fun _ => fun
  | [d1, d2, d3] => { results := [.lit (.bool true)], args := [d1, d2, d3] }
  | _ => none }
def watcherDropsRow : OpenClaim := { program := "ytmcjpochpmiipaadoor", sum := "a0447937855e1c9150ea1ca1780c38b9a4e5a27d86540ef77211166f6de07f78", func := "harpsichord/harpsichordlaw09.WatcherDrops", spec := "watcherDrops", inPlace := ["internal/bytealg.CountString", "internal/bytealg.IndexByteString", "internal/bytealg.IndexString", "slices.overlaps[harpsichord/watcher.Watch]"], unfollowed := true, recurses := true, named := ["unicode/utf8.first", "unicode/utf8.acceptRanges", "internal/bytealg.MaxLen"], apart := false, laid := [("unicode/utf8.acceptRanges", laid_unicode_utf8_acceptRanges), ("unicode/utf8.first", laid_unicode_utf8_first)] }
def WatcherDropsSaid : Prop := watcherDropsRow.holds Tryd.pinned (OpenSpec.ofChange watcherDropsSpec)

/-- ITS FALSE NEIGHBOUR: 'it returns false'. Refute it at one input. -/
def watcherDropsWrong : ChangeSpec := { name := "watcherDrops", fn := fun _ => fun
  | [d1, d2, d3] => { results := [.lit (.bool false)], args := [d1, d2, d3] }
  | _ => none }
def WatcherDropsWrongFalsely : Prop := watcherDropsRow.holds Tryd.pinned (OpenSpec.ofChange watcherDropsWrong)

/-- 'harpsichordlaw09.WatcherOrder': WHATEVER THE INPUT: true; the input reads as it did. -/
def watcherOrderSpec : ChangeSpec := { name := "watcherOrder", fn := fun _ => fun
  | [d1, d2] => { results := [.lit (.bool true)], args := [d1, d2] }
  | _ => none }
def watcherOrderRow : OpenClaim := { program := "ytmcjpochpmiipaadoor", sum := "a0447937855e1c9150ea1ca1780c38b9a4e5a27d86540ef77211166f6de07f78", func := "harpsichord/harpsichordlaw09.WatcherOrder", spec := "watcherOrder", inPlace := ["internal/bytealg.CountString", "internal/bytealg.IndexByteString", "internal/bytealg.IndexString", "slices.overlaps[harpsichord/watcher.Watch]"], unfollowed := true, recurses := true, named := ["unicode/utf8.first", "unicode/utf8.acceptRanges", "internal/bytealg.MaxLen"], apart := false, laid := [("unicode/utf8.acceptRanges", laid_unicode_utf8_acceptRanges), ("unicode/utf8.first", laid_unicode_utf8_first)] }
def WatcherOrderSaid : Prop := watcherOrderRow.holds Tryd.pinned (OpenSpec.ofChange watcherOrderSpec)

/-- ITS FALSE NEIGHBOUR: 'it returns false'. Refute it at one input. -/
def watcherOrderWrong : ChangeSpec := { name := "watcherOrder", fn := fun _ => fun
  | [d1, d2] => { results := [.lit (.bool false)], args := [d1, d2] }
  | _ => none }
def WatcherOrderWrongFalsely : Prop := watcherOrderRow.holds Tryd.pinned (OpenSpec.ofChange watcherOrderWrong)

/-- 'harpsichordlaw09.WatcherAll': WHATEVER THE INPUT: true; the input reads as it did. -/
def watcherAllSpec : ChangeSpec := { name := "watcherAll", fn := fun _ => fun
  | [d] => { results := [.lit (.bool true)], args := [d] }
  | _ => none }
def watcherAllRow : OpenClaim := { program := "ytmcjpochpmiipaadoor", sum := "a0447937855e1c9150ea1ca1780c38b9a4e5a27d86540ef77211166f6de07f78", func := "harpsichord/harpsichordlaw09.WatcherAll", spec := "watcherAll", inPlace := ["internal/bytealg.CountString", "internal/bytealg.IndexByteString", "internal/bytealg.IndexString", "slices.overlaps[harpsichord/watcher.Watch]"], unfollowed := true, recurses := true, named := ["unicode/utf8.first", "unicode/utf8.acceptRanges", "internal/bytealg.MaxLen"], apart := false, laid := [("unicode/utf8.acceptRanges", laid_unicode_utf8_acceptRanges), ("unicode/utf8.first", laid_unicode_utf8_first)] }
def WatcherAllSaid : Prop := watcherAllRow.holds Tryd.pinned (OpenSpec.ofChange watcherAllSpec)

/-- ITS FALSE NEIGHBOUR: 'it returns false'. Refute it at one input. -/
def watcherAllWrong : ChangeSpec := { name := "watcherAll", fn := fun _ => fun
  | [d] => { results := [.lit (.bool false)], args := [d] }
  | _ => none }
def WatcherAllWrongFalsely : Prop := watcherAllRow.holds Tryd.pinned (OpenSpec.ofChange watcherAllWrong)

/-- 'harpsichordlaw09.WatcherApart': WHATEVER THE INPUT: true; the input reads as it did. -/
def watcherApartSpec : ChangeSpec := { name := "watcherApart", fn := fun _ => fun
  | [d1, d2] => { results := [.lit (.bool true)], args := [d1, d2] }
  | _ => none }
def watcherApartRow : OpenClaim := { program := "ytmcjpochpmiipaadoor", sum := "a0447937855e1c9150ea1ca1780c38b9a4e5a27d86540ef77211166f6de07f78", func := "harpsichord/harpsichordlaw09.WatcherApart", spec := "watcherApart", inPlace := ["internal/bytealg.CountString", "internal/bytealg.IndexByteString", "internal/bytealg.IndexString", "slices.overlaps[harpsichord/watcher.Watch]"], unfollowed := true, recurses := true, named := ["unicode/utf8.first", "unicode/utf8.acceptRanges", "internal/bytealg.MaxLen"], apart := false, laid := [("unicode/utf8.acceptRanges", laid_unicode_utf8_acceptRanges), ("unicode/utf8.first", laid_unicode_utf8_first)] }
def WatcherApartSaid : Prop := watcherApartRow.holds Tryd.pinned (OpenSpec.ofChange watcherApartSpec)

/-- ITS FALSE NEIGHBOUR: 'it returns false'. Refute it at one input. -/
def watcherApartWrong : ChangeSpec := { name := "watcherApart", fn := fun _ => fun
  | [d1, d2] => { results := [.lit (.bool false)], args := [d1, d2] }
  | _ => none }
def WatcherApartWrongFalsely : Prop := watcherApartRow.holds Tryd.pinned (OpenSpec.ofChange watcherApartWrong)

/- THE SECOND FORM. 'bulk': how many values and letters a reading holds, each counted each time it is reached (what is shared counts as often as it is met; a slice's spare places count too). A statement '..UptoSaid' is the law's where the arguments, and the package variables that the reading takes, are together of bulk at most 1048576: NARROWER than '..Said'. Prove '..Said' where nothing that the law and all that it calls make is longer than what came in: it says more and counts as full. Else prove '..UptoSaid'. A law counts once. -/
mutual
def uptoBulk {H : Type} : DataW H → Nat
  | .lit (.string bytes) => bytes.length + 1
  | .lit _ => 1
  | .nil => 1
  | .ptr d => uptoBulk d + 1
  | .slice elems spare => uptoBulkAll elems + uptoBulkAll spare + 1
  | .agg parts => uptoBulkAll parts + 1
  | .iface _ d => uptoBulk d + 1
  | .map entries => uptoBulkEntries entries + 1
  | .held _ => 1
def uptoBulkAll {H : Type} : List (DataW H) → Nat
  | [] => 0
  | d :: r => uptoBulk d + uptoBulkAll r
def uptoBulkEntries {H : Type} : List (Lit × DataW H) → Nat
  | [] => 0
  | x :: r => uptoBulkEntry x + uptoBulkEntries r
def uptoBulkEntry {H : Type} : Lit × DataW H → Nat
  | (.string bytes, d) => bytes.length + uptoBulk d + 1
  | (_, d) => uptoBulk d + 1
 end
def uptoSmall : (H : Type) → List (DataW H) → Bool := fun _ ds => decide (uptoBulkAll ds ≤ 1048576)
def OpenSpec.upto (s : _root_.Go.ChangeSpec) : _root_.Go.OpenSpec := { _root_.Go.OpenSpec.ofChange s with cond := some uptoSmall }

/-- 'harpsichordlaw09.WatcherFull', WHERE WHAT IT READS IS OF BULK AT MOST 1048576: true; the input reads as it did. -/
def watcherFullUptoRow : OpenClaim := { program := "ytmcjpochpmiipaadoor", sum := "a0447937855e1c9150ea1ca1780c38b9a4e5a27d86540ef77211166f6de07f78", func := "harpsichord/harpsichordlaw09.WatcherFull", spec := "watcherFull", inPlace := ["internal/bytealg.CountString", "internal/bytealg.IndexByteString", "internal/bytealg.IndexString", "slices.overlaps[harpsichord/watcher.Watch]"], unfollowed := true, recurses := true, named := ["unicode/utf8.first", "unicode/utf8.acceptRanges", "internal/bytealg.MaxLen"], apart := false, laid := [("unicode/utf8.acceptRanges", laid_unicode_utf8_acceptRanges), ("unicode/utf8.first", laid_unicode_utf8_first)], narrowed := true }
def WatcherFullUptoSaid : Prop := watcherFullUptoRow.holds Tryd.pinned (OpenSpec.upto watcherFullSpec)

/-- 'harpsichordlaw09.WatcherOnce', WHERE WHAT IT READS IS OF BULK AT MOST 1048576: true; the input reads as it did. -/
def watcherOnceUptoRow : OpenClaim := { program := "ytmcjpochpmiipaadoor", sum := "a0447937855e1c9150ea1ca1780c38b9a4e5a27d86540ef77211166f6de07f78", func := "harpsichord/harpsichordlaw09.WatcherOnce", spec := "watcherOnce", inPlace := ["internal/bytealg.CountString", "internal/bytealg.IndexByteString", "internal/bytealg.IndexString", "slices.overlaps[harpsichord/watcher.Watch]"], unfollowed := true, recurses := true, named := ["unicode/utf8.first", "unicode/utf8.acceptRanges", "internal/bytealg.MaxLen"], apart := false, laid := [("unicode/utf8.acceptRanges", laid_unicode_utf8_acceptRanges), ("unicode/utf8.first", laid_unicode_utf8_first)], narrowed := true }
def WatcherOnceUptoSaid : Prop := watcherOnceUptoRow.holds Tryd.pinned (OpenSpec.upto watcherOnceSpec)

/-- 'harpsichordlaw09.WatcherDrops', WHERE WHAT IT READS IS OF BULK AT MOST 1048576: true; the input reads as it did. -/
def watcherDropsUptoRow : OpenClaim := { program := "ytmcjpochpmiipaadoor", sum := "a0447937855e1c9150ea1ca1780c38b9a4e5a27d86540ef77211166f6de07f78", func := "harpsichord/harpsichordlaw09.WatcherDrops", spec := "watcherDrops", inPlace := ["internal/bytealg.CountString", "internal/bytealg.IndexByteString", "internal/bytealg.IndexString", "slices.overlaps[harpsichord/watcher.Watch]"], unfollowed := true, recurses := true, named := ["unicode/utf8.first", "unicode/utf8.acceptRanges", "internal/bytealg.MaxLen"], apart := false, laid := [("unicode/utf8.acceptRanges", laid_unicode_utf8_acceptRanges), ("unicode/utf8.first", laid_unicode_utf8_first)], narrowed := true }
def WatcherDropsUptoSaid : Prop := watcherDropsUptoRow.holds Tryd.pinned (OpenSpec.upto watcherDropsSpec)

/-- 'harpsichordlaw09.WatcherOrder', WHERE WHAT IT READS IS OF BULK AT MOST 1048576: true; the input reads as it did. -/
def watcherOrderUptoRow : OpenClaim := { program := "ytmcjpochpmiipaadoor", sum := "a0447937855e1c9150ea1ca1780c38b9a4e5a27d86540ef77211166f6de07f78", func := "harpsichord/harpsichordlaw09.WatcherOrder", spec := "watcherOrder", inPlace := ["internal/bytealg.CountString", "internal/bytealg.IndexByteString", "internal/bytealg.IndexString", "slices.overlaps[harpsichord/watcher.Watch]"], unfollowed := true, recurses := true, named := ["unicode/utf8.first", "unicode/utf8.acceptRanges", "internal/bytealg.MaxLen"], apart := false, laid := [("unicode/utf8.acceptRanges", laid_unicode_utf8_acceptRanges), ("unicode/utf8.first", laid_unicode_utf8_first)], narrowed := true }
def WatcherOrderUptoSaid : Prop := watcherOrderUptoRow.holds Tryd.pinned (OpenSpec.upto watcherOrderSpec)

/-- 'harpsichordlaw09.WatcherAll', WHERE WHAT IT READS IS OF BULK AT MOST 1048576: true; the input reads as it did. -/
def watcherAllUptoRow : OpenClaim := { program := "ytmcjpochpmiipaadoor", sum := "a0447937855e1c9150ea1ca1780c38b9a4e5a27d86540ef77211166f6de07f78", func := "harpsichord/harpsichordlaw09.WatcherAll", spec := "watcherAll", inPlace := ["internal/bytealg.CountString", "internal/bytealg.IndexByteString", "internal/bytealg.IndexString", "slices.overlaps[harpsichord/watcher.Watch]"], unfollowed := true, recurses := true, named := ["unicode/utf8.first", "unicode/utf8.acceptRanges", "internal/bytealg.MaxLen"], apart := false, laid := [("unicode/utf8.acceptRanges", laid_unicode_utf8_acceptRanges), ("unicode/utf8.first", laid_unicode_utf8_first)], narrowed := true }
def WatcherAllUptoSaid : Prop := watcherAllUptoRow.holds Tryd.pinned (OpenSpec.upto watcherAllSpec)

/-- 'harpsichordlaw09.WatcherApart', WHERE WHAT IT READS IS OF BULK AT MOST 1048576: true; the input reads as it did. -/
def watcherApartUptoRow : OpenClaim := { program := "ytmcjpochpmiipaadoor", sum := "a0447937855e1c9150ea1ca1780c38b9a4e5a27d86540ef77211166f6de07f78", func := "harpsichord/harpsichordlaw09.WatcherApart", spec := "watcherApart", inPlace := ["internal/bytealg.CountString", "internal/bytealg.IndexByteString", "internal/bytealg.IndexString", "slices.overlaps[harpsichord/watcher.Watch]"], unfollowed := true, recurses := true, named := ["unicode/utf8.first", "unicode/utf8.acceptRanges", "internal/bytealg.MaxLen"], apart := false, laid := [("unicode/utf8.acceptRanges", laid_unicode_utf8_acceptRanges), ("unicode/utf8.first", laid_unicode_utf8_first)], narrowed := true }
def WatcherApartUptoSaid : Prop := watcherApartUptoRow.holds Tryd.pinned (OpenSpec.upto watcherApartSpec)

end Rows
end Go.Proofs.YtmcjpochpmiipaaDoor
