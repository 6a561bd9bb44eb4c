/-
  DERIVED. GIVEN WITH THE SEED: THE CARDS: each row of YtbkjhogfpcmcbaaDoorRows.lean that lists a variable, with what it lists TIED to the program's text (the seventh form; the later family's looks); each row that meets fmt, with fmt's text TOLD by the authors' own Lean function (tested against real Go, not proved from fmt's source: count such statements apart). THE CARD IS WHAT COUNTS. Prove the row's statement (the work); the ties are given (YtbkjhogfpcmcbaaDoorTie.lean); close each card by the builder's one call (the guide's Derived/Test/ToyasCard.lean, 'card_holds'). Laid BY PROGRAM, IN A SANDBOX (cutbox-door.mjs). By AI agents, Wed Nov 11 2026. No macro, syntax, notation, axiom, sorry.
-/
import Derived.Test.YtbkjhogfpcmcbaaDoorRows
import GoSem.ClaimSeven
namespace Go.Proofs.YtbkjhogfpcmcbaaDoor
namespace Rows

/-- THE TIED CARD OF 'harpsichordlaw20.ChartReads'. -/
def chartReadsCard : Claim7 := { stood := { row := chartReadsRow, standIns := [], harness := (true, "c20401202a80c73fdafd65fa42ea58542a9ff1f6749a8850421d279d551624eb"), looks := false }, kinds := [], alts := [], laidByText := true, laidKinds := [.data, .data, .data, .data, .pinned], laidTests := true, laidLooks := .later }
def ChartReadsCardSaid : Prop := Claim7.holds Tryd.pinned (.plain (OpenSpec.ofChange chartReadsSpec)) chartReadsCard

/-- THE TIED CARD OF 'harpsichordlaw20.ChartWrites'. -/
def chartWritesCard : Claim7 := { stood := { row := chartWritesRow, standIns := [], harness := (true, "c20401202a80c73fdafd65fa42ea58542a9ff1f6749a8850421d279d551624eb"), looks := false }, kinds := [], alts := [], laidByText := true, laidKinds := [.data, .data, .data, .data, .pinned], laidTests := true, laidLooks := .later }
def ChartWritesCardSaid : Prop := Claim7.holds Tryd.pinned (.plain (OpenSpec.ofChange chartWritesSpec)) chartWritesCard

/-- THE TIED CARD OF 'harpsichordlaw20.ChartFinds'. -/
def chartFindsCard : Claim7 := { stood := { row := chartFindsRow, standIns := [], harness := (true, "c20401202a80c73fdafd65fa42ea58542a9ff1f6749a8850421d279d551624eb"), looks := false }, kinds := [], alts := [], laidByText := true, laidKinds := [.data, .data, .data, .data, .pinned], laidTests := true, laidLooks := .later }
def ChartFindsCardSaid : Prop := Claim7.holds Tryd.pinned (.plain (OpenSpec.ofChange chartFindsSpec)) chartFindsCard

/-- THE TIED CARD OF 'harpsichordlaw20.ChartWins'. -/
def chartWinsCard : Claim7 := { stood := { row := chartWinsRow, standIns := [], harness := (true, "c20401202a80c73fdafd65fa42ea58542a9ff1f6749a8850421d279d551624eb"), looks := false }, kinds := [], alts := [], laidByText := true, laidKinds := [.data, .data, .data, .data, .pinned], laidTests := true, laidLooks := .later }
def ChartWinsCardSaid : Prop := Claim7.holds Tryd.pinned (.plain (OpenSpec.ofChange chartWinsSpec)) chartWinsCard

/-- THE TIED CARD OF 'harpsichordlaw20.ChartRoots'. -/
def chartRootsCard : Claim7 := { stood := { row := chartRootsRow, standIns := [], harness := (true, "c20401202a80c73fdafd65fa42ea58542a9ff1f6749a8850421d279d551624eb"), looks := false }, kinds := [], alts := [], laidByText := true, laidKinds := [.data, .data, .data, .data, .pinned], laidTests := true, laidLooks := .later }
def ChartRootsCardSaid : Prop := Claim7.holds Tryd.pinned (.plain (OpenSpec.ofChange chartRootsSpec)) chartRootsCard

/-- THE TIED CARD OF 'harpsichordlaw20.ChartViews'. -/
def chartViewsCard : Claim7 := { stood := { row := chartViewsRow, standIns := [], harness := (true, "c20401202a80c73fdafd65fa42ea58542a9ff1f6749a8850421d279d551624eb"), looks := false }, kinds := [], alts := [], laidByText := true, laidKinds := [.data, .data, .data, .data, .pinned], laidTests := true, laidLooks := .later }
def ChartViewsCardSaid : Prop := Claim7.holds Tryd.pinned (.plain (OpenSpec.ofChange chartViewsSpec)) chartViewsCard

/-- THE TIED CARD OF 'harpsichordlaw20.ChartNames'. -/
def chartNamesCard : Claim7 := { stood := { row := chartNamesRow, standIns := [], harness := (true, "c20401202a80c73fdafd65fa42ea58542a9ff1f6749a8850421d279d551624eb"), looks := false }, kinds := [], alts := [], laidByText := true, laidKinds := [.data, .data, .data, .data, .pinned], laidTests := true, laidLooks := .later }
def ChartNamesCardSaid : Prop := Claim7.holds Tryd.pinned (.plain (OpenSpec.ofChange chartNamesSpec)) chartNamesCard

/-- THE SECOND FORM's CARD OF 'harpsichordlaw20.ChartReads'. -/
def chartReadsUptoCard : Claim7 := { stood := { row := chartReadsUptoRow, standIns := [], harness := (true, "c20401202a80c73fdafd65fa42ea58542a9ff1f6749a8850421d279d551624eb"), looks := false }, kinds := [], alts := [], laidByText := true, laidKinds := [.data, .data, .data, .data, .pinned], laidTests := true, laidLooks := .later }
def ChartReadsUptoCardSaid : Prop := Claim7.holds Tryd.pinned (.plain (OpenSpec.upto chartReadsSpec)) chartReadsUptoCard

/-- THE SECOND FORM's CARD OF 'harpsichordlaw20.ChartWrites'. -/
def chartWritesUptoCard : Claim7 := { stood := { row := chartWritesUptoRow, standIns := [], harness := (true, "c20401202a80c73fdafd65fa42ea58542a9ff1f6749a8850421d279d551624eb"), looks := false }, kinds := [], alts := [], laidByText := true, laidKinds := [.data, .data, .data, .data, .pinned], laidTests := true, laidLooks := .later }
def ChartWritesUptoCardSaid : Prop := Claim7.holds Tryd.pinned (.plain (OpenSpec.upto chartWritesSpec)) chartWritesUptoCard

/-- THE SECOND FORM's CARD OF 'harpsichordlaw20.ChartFinds'. -/
def chartFindsUptoCard : Claim7 := { stood := { row := chartFindsUptoRow, standIns := [], harness := (true, "c20401202a80c73fdafd65fa42ea58542a9ff1f6749a8850421d279d551624eb"), looks := false }, kinds := [], alts := [], laidByText := true, laidKinds := [.data, .data, .data, .data, .pinned], laidTests := true, laidLooks := .later }
def ChartFindsUptoCardSaid : Prop := Claim7.holds Tryd.pinned (.plain (OpenSpec.upto chartFindsSpec)) chartFindsUptoCard

/-- THE SECOND FORM's CARD OF 'harpsichordlaw20.ChartWins'. -/
def chartWinsUptoCard : Claim7 := { stood := { row := chartWinsUptoRow, standIns := [], harness := (true, "c20401202a80c73fdafd65fa42ea58542a9ff1f6749a8850421d279d551624eb"), looks := false }, kinds := [], alts := [], laidByText := true, laidKinds := [.data, .data, .data, .data, .pinned], laidTests := true, laidLooks := .later }
def ChartWinsUptoCardSaid : Prop := Claim7.holds Tryd.pinned (.plain (OpenSpec.upto chartWinsSpec)) chartWinsUptoCard

/-- THE SECOND FORM's CARD OF 'harpsichordlaw20.ChartRoots'. -/
def chartRootsUptoCard : Claim7 := { stood := { row := chartRootsUptoRow, standIns := [], harness := (true, "c20401202a80c73fdafd65fa42ea58542a9ff1f6749a8850421d279d551624eb"), looks := false }, kinds := [], alts := [], laidByText := true, laidKinds := [.data, .data, .data, .data, .pinned], laidTests := true, laidLooks := .later }
def ChartRootsUptoCardSaid : Prop := Claim7.holds Tryd.pinned (.plain (OpenSpec.upto chartRootsSpec)) chartRootsUptoCard

/-- THE SECOND FORM's CARD OF 'harpsichordlaw20.ChartViews'. -/
def chartViewsUptoCard : Claim7 := { stood := { row := chartViewsUptoRow, standIns := [], harness := (true, "c20401202a80c73fdafd65fa42ea58542a9ff1f6749a8850421d279d551624eb"), looks := false }, kinds := [], alts := [], laidByText := true, laidKinds := [.data, .data, .data, .data, .pinned], laidTests := true, laidLooks := .later }
def ChartViewsUptoCardSaid : Prop := Claim7.holds Tryd.pinned (.plain (OpenSpec.upto chartViewsSpec)) chartViewsUptoCard

/-- THE SECOND FORM's CARD OF 'harpsichordlaw20.ChartNames'. -/
def chartNamesUptoCard : Claim7 := { stood := { row := chartNamesUptoRow, standIns := [], harness := (true, "c20401202a80c73fdafd65fa42ea58542a9ff1f6749a8850421d279d551624eb"), looks := false }, kinds := [], alts := [], laidByText := true, laidKinds := [.data, .data, .data, .data, .pinned], laidTests := true, laidLooks := .later }
def ChartNamesUptoCardSaid : Prop := Claim7.holds Tryd.pinned (.plain (OpenSpec.upto chartNamesSpec)) chartNamesUptoCard
end Rows
end Go.Proofs.YtbkjhogfpcmcbaaDoor
