/-
  DERIVED. GIVEN WITH THE SEED: THE CARDS: each row of YtegpoiepeaofgaaDoorRows.lean that lists a variable, with what it lists TIED to the program's text (the seventh form; the later family's looks); each row that meets fmt, with fmt's text TOLD by the authors' own Lean function (tested against real Go, not proved from fmt's source: count such statements apart). THE CARD IS WHAT COUNTS. Prove the row's statement (the work); the ties are given (YtegpoiepeaofgaaDoorTie.lean); close each card by the builder's one call (the guide's Derived/Test/ToyasCard.lean, 'card_holds'). Laid BY PROGRAM, IN A SANDBOX (cutbox-door.mjs). By AI agents, Wed Nov 11 2026. No macro, syntax, notation, axiom, sorry.
-/
import Derived.Test.YtegpoiepeaofgaaDoorRows
import GoSem.ClaimSeven
namespace Go.Proofs.YtegpoiepeaofgaaDoor
namespace Rows

/-- THE TIED CARD OF 'harpsichordlaw07.ZnameRises'. -/
def znameRisesCard : Claim7 := { stood := { row := znameRisesRow, standIns := [], harness := (true, "53674a1b4c6ba65fffcdc0b47613a213d497d37c29645a4acdb9a36fcd1ec0d7"), looks := false }, kinds := [], alts := [], laidByText := true, laidKinds := [.data, .pinned], laidTests := true, laidLooks := .later }
def ZnameRisesCardSaid : Prop := Claim7.holds Tryd.pinned (.plain (OpenSpec.ofChange znameRisesSpec)) znameRisesCard

/-- THE TIED CARD OF 'harpsichordlaw07.ZnameUnder'. -/
def znameUnderCard : Claim7 := { stood := { row := znameUnderRow, standIns := [], harness := (true, "53674a1b4c6ba65fffcdc0b47613a213d497d37c29645a4acdb9a36fcd1ec0d7"), looks := false }, kinds := [], alts := [], laidByText := true, laidKinds := [.data, .pinned], laidTests := true, laidLooks := .later }
def ZnameUnderCardSaid : Prop := Claim7.holds Tryd.pinned (.plain (OpenSpec.ofChange znameUnderSpec)) znameUnderCard

/-- THE TIED CARD OF 'harpsichordlaw07.ZnameParts'. -/
def znamePartsCard : Claim7 := { stood := { row := znamePartsRow, standIns := [], harness := (true, "53674a1b4c6ba65fffcdc0b47613a213d497d37c29645a4acdb9a36fcd1ec0d7"), looks := false }, kinds := [], alts := [], laidByText := true, laidKinds := [.data, .pinned], laidTests := true, laidLooks := .later }
def ZnamePartsCardSaid : Prop := Claim7.holds Tryd.pinned (.plain (OpenSpec.ofChange znamePartsSpec)) znamePartsCard

/-- THE TIED CARD OF 'harpsichordlaw07.ZnameNumbers'. -/
def znameNumbersCard : Claim7 := { stood := { row := znameNumbersRow, standIns := [], harness := (true, "53674a1b4c6ba65fffcdc0b47613a213d497d37c29645a4acdb9a36fcd1ec0d7"), looks := false }, kinds := [], alts := [], laidByText := true, laidKinds := [.data, .pinned], laidTests := true, laidLooks := .later }
def ZnameNumbersCardSaid : Prop := Claim7.holds Tryd.pinned (.plain (OpenSpec.ofChange znameNumbersSpec)) znameNumbersCard

/-- THE TIED CARD OF 'harpsichordlaw07.ZnameJoins'. -/
def znameJoinsCard : Claim7 := { stood := { row := znameJoinsRow, standIns := [], harness := (true, "53674a1b4c6ba65fffcdc0b47613a213d497d37c29645a4acdb9a36fcd1ec0d7"), looks := false }, kinds := [], alts := [], laidByText := true, laidKinds := [.data, .pinned], laidTests := true, laidLooks := .later }
def ZnameJoinsCardSaid : Prop := Claim7.holds Tryd.pinned (.plain (OpenSpec.ofChange znameJoinsSpec)) znameJoinsCard

/-- THE TIED CARD OF 'harpsichordlaw07.ZnameDeep'. -/
def znameDeepCard : Claim7 := { stood := { row := znameDeepRow, standIns := [], harness := (true, "53674a1b4c6ba65fffcdc0b47613a213d497d37c29645a4acdb9a36fcd1ec0d7"), looks := false }, kinds := [], alts := [], laidByText := true, laidKinds := [.data, .pinned], laidTests := true, laidLooks := .later }
def ZnameDeepCardSaid : Prop := Claim7.holds Tryd.pinned (.plain (OpenSpec.ofChange znameDeepSpec)) znameDeepCard

/-- THE SECOND FORM's CARD OF 'harpsichordlaw07.ZnameRises'. -/
def znameRisesUptoCard : Claim7 := { stood := { row := znameRisesUptoRow, standIns := [], harness := (true, "53674a1b4c6ba65fffcdc0b47613a213d497d37c29645a4acdb9a36fcd1ec0d7"), looks := false }, kinds := [], alts := [], laidByText := true, laidKinds := [.data, .pinned], laidTests := true, laidLooks := .later }
def ZnameRisesUptoCardSaid : Prop := Claim7.holds Tryd.pinned (.plain (OpenSpec.upto znameRisesSpec)) znameRisesUptoCard

/-- THE SECOND FORM's CARD OF 'harpsichordlaw07.ZnameUnder'. -/
def znameUnderUptoCard : Claim7 := { stood := { row := znameUnderUptoRow, standIns := [], harness := (true, "53674a1b4c6ba65fffcdc0b47613a213d497d37c29645a4acdb9a36fcd1ec0d7"), looks := false }, kinds := [], alts := [], laidByText := true, laidKinds := [.data, .pinned], laidTests := true, laidLooks := .later }
def ZnameUnderUptoCardSaid : Prop := Claim7.holds Tryd.pinned (.plain (OpenSpec.upto znameUnderSpec)) znameUnderUptoCard

/-- THE SECOND FORM's CARD OF 'harpsichordlaw07.ZnameParts'. -/
def znamePartsUptoCard : Claim7 := { stood := { row := znamePartsUptoRow, standIns := [], harness := (true, "53674a1b4c6ba65fffcdc0b47613a213d497d37c29645a4acdb9a36fcd1ec0d7"), looks := false }, kinds := [], alts := [], laidByText := true, laidKinds := [.data, .pinned], laidTests := true, laidLooks := .later }
def ZnamePartsUptoCardSaid : Prop := Claim7.holds Tryd.pinned (.plain (OpenSpec.upto znamePartsSpec)) znamePartsUptoCard

/-- THE SECOND FORM's CARD OF 'harpsichordlaw07.ZnameNumbers'. -/
def znameNumbersUptoCard : Claim7 := { stood := { row := znameNumbersUptoRow, standIns := [], harness := (true, "53674a1b4c6ba65fffcdc0b47613a213d497d37c29645a4acdb9a36fcd1ec0d7"), looks := false }, kinds := [], alts := [], laidByText := true, laidKinds := [.data, .pinned], laidTests := true, laidLooks := .later }
def ZnameNumbersUptoCardSaid : Prop := Claim7.holds Tryd.pinned (.plain (OpenSpec.upto znameNumbersSpec)) znameNumbersUptoCard

/-- THE SECOND FORM's CARD OF 'harpsichordlaw07.ZnameJoins'. -/
def znameJoinsUptoCard : Claim7 := { stood := { row := znameJoinsUptoRow, standIns := [], harness := (true, "53674a1b4c6ba65fffcdc0b47613a213d497d37c29645a4acdb9a36fcd1ec0d7"), looks := false }, kinds := [], alts := [], laidByText := true, laidKinds := [.data, .pinned], laidTests := true, laidLooks := .later }
def ZnameJoinsUptoCardSaid : Prop := Claim7.holds Tryd.pinned (.plain (OpenSpec.upto znameJoinsSpec)) znameJoinsUptoCard

/-- THE SECOND FORM's CARD OF 'harpsichordlaw07.ZnameDeep'. -/
def znameDeepUptoCard : Claim7 := { stood := { row := znameDeepUptoRow, standIns := [], harness := (true, "53674a1b4c6ba65fffcdc0b47613a213d497d37c29645a4acdb9a36fcd1ec0d7"), looks := false }, kinds := [], alts := [], laidByText := true, laidKinds := [.data, .pinned], laidTests := true, laidLooks := .later }
def ZnameDeepUptoCardSaid : Prop := Claim7.holds Tryd.pinned (.plain (OpenSpec.upto znameDeepSpec)) znameDeepUptoCard
end Rows
end Go.Proofs.YtegpoiepeaofgaaDoor
