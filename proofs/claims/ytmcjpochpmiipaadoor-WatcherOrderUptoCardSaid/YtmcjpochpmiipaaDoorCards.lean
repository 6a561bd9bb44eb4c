/-
  DERIVED. GIVEN WITH THE SEED: THE CARDS: each row of YtmcjpochpmiipaaDoorRows.lean that lists a variable, with what it lists TIED to the program's text (the seventh form; the later family's looks); each row that meets fmt, with fmt's text TOLD by the authors' own Lean function (tested against real Go, not proved from fmt's source: count such statements apart). THE CARD IS WHAT COUNTS. Prove the row's statement (the work); the ties are given (YtmcjpochpmiipaaDoorTie.lean); close each card by the builder's one call (the guide's Derived/Test/ToyasCard.lean, 'card_holds'). Laid BY PROGRAM, IN A SANDBOX (cutbox-door.mjs). By AI agents, Wed Nov 11 2026. No macro, syntax, notation, axiom, sorry.
-/
import Derived.Test.YtmcjpochpmiipaaDoorRows
import GoSem.ClaimSeven
namespace Go.Proofs.YtmcjpochpmiipaaDoor
namespace Rows

/-- THE TIED CARD OF 'harpsichordlaw09.WatcherFull'. -/
def watcherFullCard : Claim7 := { stood := { row := watcherFullRow, standIns := [], harness := (true, "7ff6d7047f8d65cf295153bdee522ea2a95ad889053c89c8493e924b6af94eb8"), looks := false }, kinds := [], alts := [], laidByText := true, laidKinds := [.data, .pinned], laidTests := true, laidLooks := .later }
def WatcherFullCardSaid : Prop := Claim7.holds Tryd.pinned (.plain (OpenSpec.ofChange watcherFullSpec)) watcherFullCard

/-- THE TIED CARD OF 'harpsichordlaw09.WatcherOnce'. -/
def watcherOnceCard : Claim7 := { stood := { row := watcherOnceRow, standIns := [], harness := (true, "7ff6d7047f8d65cf295153bdee522ea2a95ad889053c89c8493e924b6af94eb8"), looks := false }, kinds := [], alts := [], laidByText := true, laidKinds := [.data, .pinned], laidTests := true, laidLooks := .later }
def WatcherOnceCardSaid : Prop := Claim7.holds Tryd.pinned (.plain (OpenSpec.ofChange watcherOnceSpec)) watcherOnceCard

/-- THE TIED CARD OF 'harpsichordlaw09.WatcherDrops'. -/
def watcherDropsCard : Claim7 := { stood := { row := watcherDropsRow, standIns := [], harness := (true, "7ff6d7047f8d65cf295153bdee522ea2a95ad889053c89c8493e924b6af94eb8"), looks := false }, kinds := [], alts := [], laidByText := true, laidKinds := [.data, .pinned], laidTests := true, laidLooks := .later }
def WatcherDropsCardSaid : Prop := Claim7.holds Tryd.pinned (.plain (OpenSpec.ofChange watcherDropsSpec)) watcherDropsCard

/-- THE TIED CARD OF 'harpsichordlaw09.WatcherOrder'. -/
def watcherOrderCard : Claim7 := { stood := { row := watcherOrderRow, standIns := [], harness := (true, "7ff6d7047f8d65cf295153bdee522ea2a95ad889053c89c8493e924b6af94eb8"), looks := false }, kinds := [], alts := [], laidByText := true, laidKinds := [.data, .pinned], laidTests := true, laidLooks := .later }
def WatcherOrderCardSaid : Prop := Claim7.holds Tryd.pinned (.plain (OpenSpec.ofChange watcherOrderSpec)) watcherOrderCard

/-- THE TIED CARD OF 'harpsichordlaw09.WatcherAll'. -/
def watcherAllCard : Claim7 := { stood := { row := watcherAllRow, standIns := [], harness := (true, "7ff6d7047f8d65cf295153bdee522ea2a95ad889053c89c8493e924b6af94eb8"), looks := false }, kinds := [], alts := [], laidByText := true, laidKinds := [.data, .pinned], laidTests := true, laidLooks := .later }
def WatcherAllCardSaid : Prop := Claim7.holds Tryd.pinned (.plain (OpenSpec.ofChange watcherAllSpec)) watcherAllCard

/-- THE TIED CARD OF 'harpsichordlaw09.WatcherApart'. -/
def watcherApartCard : Claim7 := { stood := { row := watcherApartRow, standIns := [], harness := (true, "7ff6d7047f8d65cf295153bdee522ea2a95ad889053c89c8493e924b6af94eb8"), looks := false }, kinds := [], alts := [], laidByText := true, laidKinds := [.data, .pinned], laidTests := true, laidLooks := .later }
def WatcherApartCardSaid : Prop := Claim7.holds Tryd.pinned (.plain (OpenSpec.ofChange watcherApartSpec)) watcherApartCard

/-- THE SECOND FORM's CARD OF 'harpsichordlaw09.WatcherFull'. -/
def watcherFullUptoCard : Claim7 := { stood := { row := watcherFullUptoRow, standIns := [], harness := (true, "7ff6d7047f8d65cf295153bdee522ea2a95ad889053c89c8493e924b6af94eb8"), looks := false }, kinds := [], alts := [], laidByText := true, laidKinds := [.data, .pinned], laidTests := true, laidLooks := .later }
def WatcherFullUptoCardSaid : Prop := Claim7.holds Tryd.pinned (.plain (OpenSpec.upto watcherFullSpec)) watcherFullUptoCard

/-- THE SECOND FORM's CARD OF 'harpsichordlaw09.WatcherOnce'. -/
def watcherOnceUptoCard : Claim7 := { stood := { row := watcherOnceUptoRow, standIns := [], harness := (true, "7ff6d7047f8d65cf295153bdee522ea2a95ad889053c89c8493e924b6af94eb8"), looks := false }, kinds := [], alts := [], laidByText := true, laidKinds := [.data, .pinned], laidTests := true, laidLooks := .later }
def WatcherOnceUptoCardSaid : Prop := Claim7.holds Tryd.pinned (.plain (OpenSpec.upto watcherOnceSpec)) watcherOnceUptoCard

/-- THE SECOND FORM's CARD OF 'harpsichordlaw09.WatcherDrops'. -/
def watcherDropsUptoCard : Claim7 := { stood := { row := watcherDropsUptoRow, standIns := [], harness := (true, "7ff6d7047f8d65cf295153bdee522ea2a95ad889053c89c8493e924b6af94eb8"), looks := false }, kinds := [], alts := [], laidByText := true, laidKinds := [.data, .pinned], laidTests := true, laidLooks := .later }
def WatcherDropsUptoCardSaid : Prop := Claim7.holds Tryd.pinned (.plain (OpenSpec.upto watcherDropsSpec)) watcherDropsUptoCard

/-- THE SECOND FORM's CARD OF 'harpsichordlaw09.WatcherOrder'. -/
def watcherOrderUptoCard : Claim7 := { stood := { row := watcherOrderUptoRow, standIns := [], harness := (true, "7ff6d7047f8d65cf295153bdee522ea2a95ad889053c89c8493e924b6af94eb8"), looks := false }, kinds := [], alts := [], laidByText := true, laidKinds := [.data, .pinned], laidTests := true, laidLooks := .later }
def WatcherOrderUptoCardSaid : Prop := Claim7.holds Tryd.pinned (.plain (OpenSpec.upto watcherOrderSpec)) watcherOrderUptoCard

/-- THE SECOND FORM's CARD OF 'harpsichordlaw09.WatcherAll'. -/
def watcherAllUptoCard : Claim7 := { stood := { row := watcherAllUptoRow, standIns := [], harness := (true, "7ff6d7047f8d65cf295153bdee522ea2a95ad889053c89c8493e924b6af94eb8"), looks := false }, kinds := [], alts := [], laidByText := true, laidKinds := [.data, .pinned], laidTests := true, laidLooks := .later }
def WatcherAllUptoCardSaid : Prop := Claim7.holds Tryd.pinned (.plain (OpenSpec.upto watcherAllSpec)) watcherAllUptoCard

/-- THE SECOND FORM's CARD OF 'harpsichordlaw09.WatcherApart'. -/
def watcherApartUptoCard : Claim7 := { stood := { row := watcherApartUptoRow, standIns := [], harness := (true, "7ff6d7047f8d65cf295153bdee522ea2a95ad889053c89c8493e924b6af94eb8"), looks := false }, kinds := [], alts := [], laidByText := true, laidKinds := [.data, .pinned], laidTests := true, laidLooks := .later }
def WatcherApartUptoCardSaid : Prop := Claim7.holds Tryd.pinned (.plain (OpenSpec.upto watcherApartSpec)) watcherApartUptoCard
end Rows
end Go.Proofs.YtmcjpochpmiipaaDoor
