/-
  NARROWER THAN 'FOR EVERY INPUT', by the rows' own cells (each row's printed sentence says how): ZnameRises: laid · ZnameUnder: laid · ZnameParts: laid · ZnameNumbers: laid · ZnameJoins: laid · ZnameDeep: laid.
  DERIVED. THE GIVEN ROWS OF THIS SEAT. 6 by the template 'for every input the law returns true; each argument reads behind the call as it read before'; 0 by the template 'total and deterministic' (their statements: YtegpoiepeaofgaaDoorTotals.lean).
  GIVEN WITH THE SEED: the statements are not yours to turn. If you find one false, say at which input.
  Laid BY PROGRAM, IN A SANDBOX (cutbox-rows.mjs): the forced cells as the released guide's own fill.sh prints them over the translation c50957d5511a77f2… (all of the seat's roots in one cut). By AI agents, Wed Nov 11 2026. No macro, syntax, notation, axiom, sorry.
-/
import Derived.Test.YtegpoiepeaofgaaDoorChecked
import GoSem.PinnedTables
import GoSem.Claim
import GoSem.ClaimJoined
import GoSem.ClaimMapViews
import Derived.JoinedTies
import Derived.KernelRfl
namespace Go.Proofs.YtegpoiepeaofgaaDoor
/- THE CELL 'sum', in the pinned program and in every row, IS THE sha256 OF THE DUMP (.gsa) THAT YtegpoiepeaofgaaDoorProg.lean LOADS. Nothing in Lean hashes anything: it is a label: what it is worth is what the hold of that sum in a sandbox is worth. -/
noncomputable def Tryd.pinned : Pinned := { name := "ytegpoiepeaofgaadoor", sum := "c50957d5511a77f2d495bc961a17df20996ce278521ef2b9248a041b3ee9d75a", checked := Tryd.checked }
namespace Rows
def none {H : Type} : Left H := { results := [], args := [] }

/- WHAT THE LISTED PACKAGE-LEVEL VARIABLES READ AS WHEN THE CALL BEGINS. Each datum BY PROGRAM (the guide's laid-datum.mjs) off the statement by which the dump's own 'gosem.cut.vars' lays the variable. In a bare row this is a premise. The card (YtegpoiepeaofgaaDoorCards.lean) ties it to the program's text. -/
def laid_unicode_utf8_acceptRanges {H : Type} : DataW H := .agg [.agg [.lit (.int .u8 128), .lit (.int .u8 191)], .agg [.lit (.int .u8 160), .lit (.int .u8 191)], .agg [.lit (.int .u8 128), .lit (.int .u8 159)], .agg [.lit (.int .u8 144), .lit (.int .u8 191)], .agg [.lit (.int .u8 128), .lit (.int .u8 143)], .agg [.lit (.int .u8 0), .lit (.int .u8 0)], .agg [.lit (.int .u8 0), .lit (.int .u8 0)], .agg [.lit (.int .u8 0), .lit (.int .u8 0)], .agg [.lit (.int .u8 0), .lit (.int .u8 0)], .agg [.lit (.int .u8 0), .lit (.int .u8 0)], .agg [.lit (.int .u8 0), .lit (.int .u8 0)], .agg [.lit (.int .u8 0), .lit (.int .u8 0)], .agg [.lit (.int .u8 0), .lit (.int .u8 0)], .agg [.lit (.int .u8 0), .lit (.int .u8 0)], .agg [.lit (.int .u8 0), .lit (.int .u8 0)], .agg [.lit (.int .u8 0), .lit (.int .u8 0)]]
/-- One of Go's own tables, pinned by name: the form's constant. -/
def laid_unicode_utf8_first : DataW Unit := Go.Pinned.utf8First

/-- 'harpsichordlaw07.ZnameRises': WHATEVER THE INPUT: true; the input reads as it did. -/
def znameRisesSpec : ChangeSpec := { name := "znameRises", fn := fun _ => fun
  | [d1, d2, d3] => { results := [.lit (.bool true)], args := [d1, d2, d3] }
  | _ => none }
def znameRisesRow : OpenClaim := { program := "ytegpoiepeaofgaadoor", sum := "c50957d5511a77f2d495bc961a17df20996ce278521ef2b9248a041b3ee9d75a", func := "harpsichord/harpsichordlaw07.ZnameRises", spec := "znameRises", inPlace := ["internal/bytealg.CountString", "internal/bytealg.IndexByteString", "internal/bytealg.IndexString", "internal/abi.NoEscape", "internal/bytealg.MakeNoZero"], named := ["unicode/utf8.first", "unicode/utf8.acceptRanges", "internal/bytealg.MaxLen"], apart := false, laid := [("unicode/utf8.acceptRanges", laid_unicode_utf8_acceptRanges), ("unicode/utf8.first", laid_unicode_utf8_first)] }
def ZnameRisesSaid : Prop := znameRisesRow.holds Tryd.pinned (OpenSpec.ofChange znameRisesSpec)

/-- ITS FALSE NEIGHBOUR: 'it returns false'. Refute it at one input. -/
def znameRisesWrong : ChangeSpec := { name := "znameRises", fn := fun _ => fun
  | [d1, d2, d3] => { results := [.lit (.bool false)], args := [d1, d2, d3] }
  | _ => none }
def ZnameRisesWrongFalsely : Prop := znameRisesRow.holds Tryd.pinned (OpenSpec.ofChange znameRisesWrong)

/-- 'harpsichordlaw07.ZnameUnder': WHATEVER THE INPUT: true; the input reads as it did. -/
def znameUnderSpec : ChangeSpec := { name := "znameUnder", fn := fun _ => fun
  | [d1, d2, d3] => { results := [.lit (.bool true)], args := [d1, d2, d3] }
  | _ => none }
def znameUnderRow : OpenClaim := { program := "ytegpoiepeaofgaadoor", sum := "c50957d5511a77f2d495bc961a17df20996ce278521ef2b9248a041b3ee9d75a", func := "harpsichord/harpsichordlaw07.ZnameUnder", spec := "znameUnder", inPlace := ["internal/bytealg.CountString", "internal/bytealg.IndexByteString", "internal/bytealg.IndexString", "internal/abi.NoEscape", "internal/bytealg.MakeNoZero"], named := ["unicode/utf8.first", "unicode/utf8.acceptRanges", "internal/bytealg.MaxLen"], apart := false, laid := [("unicode/utf8.acceptRanges", laid_unicode_utf8_acceptRanges), ("unicode/utf8.first", laid_unicode_utf8_first)] }
def ZnameUnderSaid : Prop := znameUnderRow.holds Tryd.pinned (OpenSpec.ofChange znameUnderSpec)

/-- ITS FALSE NEIGHBOUR: 'it returns false'. Refute it at one input. -/
def znameUnderWrong : ChangeSpec := { name := "znameUnder", fn := fun _ => fun
  | [d1, d2, d3] => { results := [.lit (.bool false)], args := [d1, d2, d3] }
  | _ => none }
def ZnameUnderWrongFalsely : Prop := znameUnderRow.holds Tryd.pinned (OpenSpec.ofChange znameUnderWrong)

/-- 'harpsichordlaw07.ZnameParts': WHATEVER THE INPUT: true; the input reads as it did. -/
def znamePartsSpec : ChangeSpec := { name := "znameParts", fn := fun _ => fun
  | [d] => { results := [.lit (.bool true)], args := [d] }
  | _ => none }
def znamePartsRow : OpenClaim := { program := "ytegpoiepeaofgaadoor", sum := "c50957d5511a77f2d495bc961a17df20996ce278521ef2b9248a041b3ee9d75a", func := "harpsichord/harpsichordlaw07.ZnameParts", spec := "znameParts", inPlace := ["internal/bytealg.CountString", "internal/bytealg.IndexByteString", "internal/bytealg.IndexString", "internal/abi.NoEscape", "internal/bytealg.MakeNoZero"], named := ["unicode/utf8.first", "unicode/utf8.acceptRanges", "internal/bytealg.MaxLen"], apart := false, laid := [("unicode/utf8.acceptRanges", laid_unicode_utf8_acceptRanges), ("unicode/utf8.first", laid_unicode_utf8_first)] }
def ZnamePartsSaid : Prop := znamePartsRow.holds Tryd.pinned (OpenSpec.ofChange znamePartsSpec)

/-- ITS FALSE NEIGHBOUR: 'it returns false'. Refute it at one input. -/
def znamePartsWrong : ChangeSpec := { name := "znameParts", fn := fun _ => fun
  | [d] => { results := [.lit (.bool false)], args := [d] }
  | _ => none }
def ZnamePartsWrongFalsely : Prop := znamePartsRow.holds Tryd.pinned (OpenSpec.ofChange znamePartsWrong)

/-- 'harpsichordlaw07.ZnameNumbers': WHATEVER THE INPUT: true; the input reads as it did. -/
def znameNumbersSpec : ChangeSpec := { name := "znameNumbers", fn := fun _ => fun
  | [d1, d2] => { results := [.lit (.bool true)], args := [d1, d2] }
  | _ => none }
def znameNumbersRow : OpenClaim := { program := "ytegpoiepeaofgaadoor", sum := "c50957d5511a77f2d495bc961a17df20996ce278521ef2b9248a041b3ee9d75a", func := "harpsichord/harpsichordlaw07.ZnameNumbers", spec := "znameNumbers", inPlace := ["internal/bytealg.CountString", "internal/bytealg.IndexByteString", "internal/bytealg.IndexString", "internal/abi.NoEscape", "internal/bytealg.MakeNoZero"], named := ["unicode/utf8.first", "unicode/utf8.acceptRanges", "internal/bytealg.MaxLen"], apart := false, laid := [("unicode/utf8.acceptRanges", laid_unicode_utf8_acceptRanges), ("unicode/utf8.first", laid_unicode_utf8_first)] }
def ZnameNumbersSaid : Prop := znameNumbersRow.holds Tryd.pinned (OpenSpec.ofChange znameNumbersSpec)

/-- ITS FALSE NEIGHBOUR: 'it returns false'. Refute it at one input. -/
def znameNumbersWrong : ChangeSpec := { name := "znameNumbers", fn := fun _ => fun
  | [d1, d2] => { results := [.lit (.bool false)], args := [d1, d2] }
  | _ => none }
def ZnameNumbersWrongFalsely : Prop := znameNumbersRow.holds Tryd.pinned (OpenSpec.ofChange znameNumbersWrong)

/-- 'harpsichordlaw07.ZnameJoins': WHATEVER THE INPUT: true; the input reads as it did. -/
def znameJoinsSpec : ChangeSpec := { name := "znameJoins", fn := fun _ => fun
  | [d1, d2] => { results := [.lit (.bool true)], args := [d1, d2] }
  | _ => none }
def znameJoinsRow : OpenClaim := { program := "ytegpoiepeaofgaadoor", sum := "c50957d5511a77f2d495bc961a17df20996ce278521ef2b9248a041b3ee9d75a", func := "harpsichord/harpsichordlaw07.ZnameJoins", spec := "znameJoins", inPlace := ["internal/bytealg.CountString", "internal/bytealg.IndexByteString", "internal/bytealg.IndexString", "internal/abi.NoEscape", "internal/bytealg.MakeNoZero"], named := ["unicode/utf8.first", "unicode/utf8.acceptRanges", "internal/bytealg.MaxLen"], apart := false, laid := [("unicode/utf8.acceptRanges", laid_unicode_utf8_acceptRanges), ("unicode/utf8.first", laid_unicode_utf8_first)] }
def ZnameJoinsSaid : Prop := znameJoinsRow.holds Tryd.pinned (OpenSpec.ofChange znameJoinsSpec)

/-- ITS FALSE NEIGHBOUR: 'it returns false'. Refute it at one input. -/
def znameJoinsWrong : ChangeSpec := { name := "znameJoins", fn := fun _ => fun
  | [d1, d2] => { results := [.lit (.bool false)], args := [d1, d2] }
  | _ => none }
def ZnameJoinsWrongFalsely : Prop := znameJoinsRow.holds Tryd.pinned (OpenSpec.ofChange znameJoinsWrong)

/-- 'harpsichordlaw07.ZnameDeep': WHATEVER THE INPUT: true; the input reads as it did. -/
def znameDeepSpec : ChangeSpec := { name := "znameDeep", fn := fun _ => fun
  | [d] => { results := [.lit (.bool true)], args := [d] }
  | _ => none }
def znameDeepRow : OpenClaim := { program := "ytegpoiepeaofgaadoor", sum := "c50957d5511a77f2d495bc961a17df20996ce278521ef2b9248a041b3ee9d75a", func := "harpsichord/harpsichordlaw07.ZnameDeep", spec := "znameDeep", inPlace := ["internal/bytealg.CountString", "internal/bytealg.IndexByteString", "internal/bytealg.IndexString", "internal/abi.NoEscape", "internal/bytealg.MakeNoZero"], named := ["unicode/utf8.first", "unicode/utf8.acceptRanges", "internal/bytealg.MaxLen"], apart := false, laid := [("unicode/utf8.acceptRanges", laid_unicode_utf8_acceptRanges), ("unicode/utf8.first", laid_unicode_utf8_first)] }
def ZnameDeepSaid : Prop := znameDeepRow.holds Tryd.pinned (OpenSpec.ofChange znameDeepSpec)

/-- ITS FALSE NEIGHBOUR: 'it returns false'. Refute it at one input. -/
def znameDeepWrong : ChangeSpec := { name := "znameDeep", fn := fun _ => fun
  | [d] => { results := [.lit (.bool false)], args := [d] }
  | _ => none }
def ZnameDeepWrongFalsely : Prop := znameDeepRow.holds Tryd.pinned (OpenSpec.ofChange znameDeepWrong)

/- THE SECOND FORM. 'bulk': how many values and letters a reading holds, each counted each time it is reached (what is shared counts as often as it is met; a slice's spare places count too). A statement '..UptoSaid' is the law's where the arguments, and the package variables that the reading takes, are together of bulk at most 1048576: NARROWER than '..Said'. Prove '..Said' where nothing that the law and all that it calls make is longer than what came in: it says more and counts as full. Else prove '..UptoSaid'. A law counts once. -/
mutual
def uptoBulk {H : Type} : DataW H → Nat
  | .lit (.string bytes) => bytes.length + 1
  | .lit _ => 1
  | .nil => 1
  | .ptr d => uptoBulk d + 1
  | .slice elems spare => uptoBulkAll elems + uptoBulkAll spare + 1
  | .agg parts => uptoBulkAll parts + 1
  | .iface _ d => uptoBulk d + 1
  | .map entries => uptoBulkEntries entries + 1
  | .held _ => 1
def uptoBulkAll {H : Type} : List (DataW H) → Nat
  | [] => 0
  | d :: r => uptoBulk d + uptoBulkAll r
def uptoBulkEntries {H : Type} : List (Lit × DataW H) → Nat
  | [] => 0
  | x :: r => uptoBulkEntry x + uptoBulkEntries r
def uptoBulkEntry {H : Type} : Lit × DataW H → Nat
  | (.string bytes, d) => bytes.length + uptoBulk d + 1
  | (_, d) => uptoBulk d + 1
 end
def uptoSmall : (H : Type) → List (DataW H) → Bool := fun _ ds => decide (uptoBulkAll ds ≤ 1048576)
def OpenSpec.upto (s : _root_.Go.ChangeSpec) : _root_.Go.OpenSpec := { _root_.Go.OpenSpec.ofChange s with cond := some uptoSmall }

/-- 'harpsichordlaw07.ZnameRises', WHERE WHAT IT READS IS OF BULK AT MOST 1048576: true; the input reads as it did. -/
def znameRisesUptoRow : OpenClaim := { program := "ytegpoiepeaofgaadoor", sum := "c50957d5511a77f2d495bc961a17df20996ce278521ef2b9248a041b3ee9d75a", func := "harpsichord/harpsichordlaw07.ZnameRises", spec := "znameRises", inPlace := ["internal/bytealg.CountString", "internal/bytealg.IndexByteString", "internal/bytealg.IndexString", "internal/abi.NoEscape", "internal/bytealg.MakeNoZero"], named := ["unicode/utf8.first", "unicode/utf8.acceptRanges", "internal/bytealg.MaxLen"], apart := false, laid := [("unicode/utf8.acceptRanges", laid_unicode_utf8_acceptRanges), ("unicode/utf8.first", laid_unicode_utf8_first)], narrowed := true }
def ZnameRisesUptoSaid : Prop := znameRisesUptoRow.holds Tryd.pinned (OpenSpec.upto znameRisesSpec)

/-- 'harpsichordlaw07.ZnameUnder', WHERE WHAT IT READS IS OF BULK AT MOST 1048576: true; the input reads as it did. -/
def znameUnderUptoRow : OpenClaim := { program := "ytegpoiepeaofgaadoor", sum := "c50957d5511a77f2d495bc961a17df20996ce278521ef2b9248a041b3ee9d75a", func := "harpsichord/harpsichordlaw07.ZnameUnder", spec := "znameUnder", inPlace := ["internal/bytealg.CountString", "internal/bytealg.IndexByteString", "internal/bytealg.IndexString", "internal/abi.NoEscape", "internal/bytealg.MakeNoZero"], named := ["unicode/utf8.first", "unicode/utf8.acceptRanges", "internal/bytealg.MaxLen"], apart := false, laid := [("unicode/utf8.acceptRanges", laid_unicode_utf8_acceptRanges), ("unicode/utf8.first", laid_unicode_utf8_first)], narrowed := true }
def ZnameUnderUptoSaid : Prop := znameUnderUptoRow.holds Tryd.pinned (OpenSpec.upto znameUnderSpec)

/-- 'harpsichordlaw07.ZnameParts', WHERE WHAT IT READS IS OF BULK AT MOST 1048576: true; the input reads as it did. -/
def znamePartsUptoRow : OpenClaim := { program := "ytegpoiepeaofgaadoor", sum := "c50957d5511a77f2d495bc961a17df20996ce278521ef2b9248a041b3ee9d75a", func := "harpsichord/harpsichordlaw07.ZnameParts", spec := "znameParts", inPlace := ["internal/bytealg.CountString", "internal/bytealg.IndexByteString", "internal/bytealg.IndexString", "internal/abi.NoEscape", "internal/bytealg.MakeNoZero"], named := ["unicode/utf8.first", "unicode/utf8.acceptRanges", "internal/bytealg.MaxLen"], apart := false, laid := [("unicode/utf8.acceptRanges", laid_unicode_utf8_acceptRanges), ("unicode/utf8.first", laid_unicode_utf8_first)], narrowed := true }
def ZnamePartsUptoSaid : Prop := znamePartsUptoRow.holds Tryd.pinned (OpenSpec.upto znamePartsSpec)

/-- 'harpsichordlaw07.ZnameNumbers', WHERE WHAT IT READS IS OF BULK AT MOST 1048576: true; the input reads as it did. -/
def znameNumbersUptoRow : OpenClaim := { program := "ytegpoiepeaofgaadoor", sum := "c50957d5511a77f2d495bc961a17df20996ce278521ef2b9248a041b3ee9d75a", func := "harpsichord/harpsichordlaw07.ZnameNumbers", spec := "znameNumbers", inPlace := ["internal/bytealg.CountString", "internal/bytealg.IndexByteString", "internal/bytealg.IndexString", "internal/abi.NoEscape", "internal/bytealg.MakeNoZero"], named := ["unicode/utf8.first", "unicode/utf8.acceptRanges", "internal/bytealg.MaxLen"], apart := false, laid := [("unicode/utf8.acceptRanges", laid_unicode_utf8_acceptRanges), ("unicode/utf8.first", laid_unicode_utf8_first)], narrowed := true }
def ZnameNumbersUptoSaid : Prop := znameNumbersUptoRow.holds Tryd.pinned (OpenSpec.upto znameNumbersSpec)

/-- 'harpsichordlaw07.ZnameJoins', WHERE WHAT IT READS IS OF BULK AT MOST 1048576: true; the input reads as it did. -/
def znameJoinsUptoRow : OpenClaim := { program := "ytegpoiepeaofgaadoor", sum := "c50957d5511a77f2d495bc961a17df20996ce278521ef2b9248a041b3ee9d75a", func := "harpsichord/harpsichordlaw07.ZnameJoins", spec := "znameJoins", inPlace := ["internal/bytealg.CountString", "internal/bytealg.IndexByteString", "internal/bytealg.IndexString", "internal/abi.NoEscape", "internal/bytealg.MakeNoZero"], named := ["unicode/utf8.first", "unicode/utf8.acceptRanges", "internal/bytealg.MaxLen"], apart := false, laid := [("unicode/utf8.acceptRanges", laid_unicode_utf8_acceptRanges), ("unicode/utf8.first", laid_unicode_utf8_first)], narrowed := true }
def ZnameJoinsUptoSaid : Prop := znameJoinsUptoRow.holds Tryd.pinned (OpenSpec.upto znameJoinsSpec)

/-- 'harpsichordlaw07.ZnameDeep', WHERE WHAT IT READS IS OF BULK AT MOST 1048576: true; the input reads as it did. -/
def znameDeepUptoRow : OpenClaim := { program := "ytegpoiepeaofgaadoor", sum := "c50957d5511a77f2d495bc961a17df20996ce278521ef2b9248a041b3ee9d75a", func := "harpsichord/harpsichordlaw07.ZnameDeep", spec := "znameDeep", inPlace := ["internal/bytealg.CountString", "internal/bytealg.IndexByteString", "internal/bytealg.IndexString", "internal/abi.NoEscape", "internal/bytealg.MakeNoZero"], named := ["unicode/utf8.first", "unicode/utf8.acceptRanges", "internal/bytealg.MaxLen"], apart := false, laid := [("unicode/utf8.acceptRanges", laid_unicode_utf8_acceptRanges), ("unicode/utf8.first", laid_unicode_utf8_first)], narrowed := true }
def ZnameDeepUptoSaid : Prop := znameDeepUptoRow.holds Tryd.pinned (OpenSpec.upto znameDeepSpec)

end Rows
end Go.Proofs.YtegpoiepeaofgaaDoor
