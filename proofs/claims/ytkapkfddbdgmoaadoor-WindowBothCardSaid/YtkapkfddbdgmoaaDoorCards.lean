/-
  DERIVED. GIVEN WITH THE SEED: THE CARDS: each row of YtkapkfddbdgmoaaDoorRows.lean that lists a variable, with what it lists TIED to the program's text (the seventh form; the later family's looks); each row that meets fmt, with fmt's text TOLD by the authors' own Lean function (tested against real Go, not proved from fmt's source: count such statements apart). THE CARD IS WHAT COUNTS. Prove the row's statement (the work); the ties are given (YtkapkfddbdgmoaaDoorTie.lean); close each card by the builder's one call (the guide's Derived/Test/ToyasCard.lean, 'card_holds'). Laid BY PROGRAM, IN A SANDBOX (cutbox-door.mjs). By AI agents, Wed Nov 11 2026. No macro, syntax, notation, axiom, sorry.
-/
import Derived.Test.YtkapkfddbdgmoaaDoorRows
import GoSem.ClaimSeven
namespace Go.Proofs.YtkapkfddbdgmoaaDoor
namespace Rows

/-- THE TIED CARD OF 'bywashlaw11.SchemeWindows'. -/
def schemeWindowsCard : Claim7 := { stood := { row := schemeWindowsRow, standIns := [], harness := (true, "f7b5bda3c1d23381eaa6acc0b65bbc9ec369845a78b3096ead04690625b523f1"), looks := true }, kinds := [], alts := [], laidByText := true, laidKinds := [.data, .data, .data, .sentinel, .sentinel, .data, .widerDeep], laidTests := true, laidLooks := .later }
def SchemeWindowsCardSaid : Prop := Claim7.holds Tryd.pinned (.plain (OpenSpec.ofChange schemeWindowsSpec)) schemeWindowsCard

/-- THE TIED CARD OF 'bywashlaw11.SchemeShows'. -/
def schemeShowsCard : Claim7 := { stood := { row := schemeShowsRow, standIns := [], harness := (true, "f7b5bda3c1d23381eaa6acc0b65bbc9ec369845a78b3096ead04690625b523f1"), looks := true }, kinds := [], alts := [], laidByText := true, laidKinds := [.data, .data, .data, .sentinel, .sentinel, .data, .widerDeep], laidTests := true, laidLooks := .later }
def SchemeShowsCardSaid : Prop := Claim7.holds Tryd.pinned (.plain (OpenSpec.ofChange schemeShowsSpec)) schemeShowsCard

/-- THE TIED CARD OF 'bywashlaw11.SchemeParses'. -/
def schemeParsesCard : Claim7 := { stood := { row := schemeParsesRow, standIns := [], harness := (true, "f7b5bda3c1d23381eaa6acc0b65bbc9ec369845a78b3096ead04690625b523f1"), looks := true }, kinds := [], alts := [], laidByText := true, laidKinds := [.data, .data, .data, .sentinel, .sentinel, .data, .widerDeep], laidTests := true, laidLooks := .later }
def SchemeParsesCardSaid : Prop := Claim7.holds Tryd.pinned (.plain (OpenSpec.ofChange schemeParsesSpec)) schemeParsesCard

/-- THE TIED CARD OF 'bywashlaw11.SchemeChecks'. -/
def schemeChecksCard : Claim7 := { stood := { row := schemeChecksRow, standIns := [], harness := (true, "f7b5bda3c1d23381eaa6acc0b65bbc9ec369845a78b3096ead04690625b523f1"), looks := true }, kinds := [], alts := [], laidByText := true, laidKinds := [.data, .data, .data, .sentinel, .sentinel, .data, .widerDeep], laidTests := true, laidLooks := .later }
def SchemeChecksCardSaid : Prop := Claim7.holds Tryd.pinned (.plain (OpenSpec.ofChange schemeChecksSpec)) schemeChecksCard

/-- THE TIED CARD OF 'bywashlaw11.SchemeTiles'. -/
def schemeTilesCard : Claim7 := { stood := { row := schemeTilesRow, standIns := [], harness := (true, "f7b5bda3c1d23381eaa6acc0b65bbc9ec369845a78b3096ead04690625b523f1"), looks := true }, kinds := [], alts := [], laidByText := true, laidKinds := [.data, .data, .data, .sentinel, .sentinel, .data, .widerDeep], laidTests := true, laidLooks := .later }
def SchemeTilesCardSaid : Prop := Claim7.holds Tryd.pinned (.plain (OpenSpec.ofChange schemeTilesSpec)) schemeTilesCard

/-- THE TIED CARD OF 'bywashlaw11.SchemeWithin'. -/
def schemeWithinCard : Claim7 := { stood := { row := schemeWithinRow, standIns := [], harness := (true, "f7b5bda3c1d23381eaa6acc0b65bbc9ec369845a78b3096ead04690625b523f1"), looks := true }, kinds := [], alts := [], laidByText := true, laidKinds := [.data, .data, .data, .sentinel, .sentinel, .data, .widerDeep], laidTests := true, laidLooks := .later }
def SchemeWithinCardSaid : Prop := Claim7.holds Tryd.pinned (.plain (OpenSpec.ofChange schemeWithinSpec)) schemeWithinCard

/-- THE TIED CARD OF 'bywashlaw12.WindowNeeds'. -/
def windowNeedsCard : Claim7 := { stood := { row := windowNeedsRow, standIns := [], harness := (true, "f7b5bda3c1d23381eaa6acc0b65bbc9ec369845a78b3096ead04690625b523f1"), looks := true }, kinds := [], alts := [], laidByText := true, laidKinds := [.data, .data, .data, .data, .widerDeep], laidTests := true, laidLooks := .later }
def WindowNeedsCardSaid : Prop := Claim7.holds Tryd.pinned (.plain (OpenSpec.ofChange windowNeedsSpec)) windowNeedsCard

/-- THE TIED CARD OF 'bywashlaw12.WindowChecks'. -/
def windowChecksCard : Claim7 := { stood := { row := windowChecksRow, standIns := [], harness := (true, "f7b5bda3c1d23381eaa6acc0b65bbc9ec369845a78b3096ead04690625b523f1"), looks := true }, kinds := [], alts := [], laidByText := true, laidKinds := [.data, .data, .data, .data, .widerDeep], laidTests := true, laidLooks := .later }
def WindowChecksCardSaid : Prop := Claim7.holds Tryd.pinned (.plain (OpenSpec.ofChange windowChecksSpec)) windowChecksCard

/-- THE TIED CARD OF 'bywashlaw12.WindowBack'. -/
def windowBackCard : Claim7 := { stood := { row := windowBackRow, standIns := [], harness := (true, "f7b5bda3c1d23381eaa6acc0b65bbc9ec369845a78b3096ead04690625b523f1"), looks := true }, kinds := [], alts := [], laidByText := true, laidKinds := [.data, .data, .data, .data, .widerDeep], laidTests := true, laidLooks := .later }
def WindowBackCardSaid : Prop := Claim7.holds Tryd.pinned (.plain (OpenSpec.ofChange windowBackSpec)) windowBackCard

/-- THE TIED CARD OF 'bywashlaw12.WindowBoth'. -/
def windowBothCard : Claim7 := { stood := { row := windowBothRow, standIns := [], harness := (true, "f7b5bda3c1d23381eaa6acc0b65bbc9ec369845a78b3096ead04690625b523f1"), looks := true }, kinds := [], alts := [], laidByText := true, laidKinds := [.data, .data, .data, .data, .widerDeep], laidTests := true, laidLooks := .later }
def WindowBothCardSaid : Prop := Claim7.holds Tryd.pinned (.plain (OpenSpec.ofChange windowBothSpec)) windowBothCard

/-- THE TIED CARD OF 'bywashlaw12.WindowShows'. -/
def windowShowsCard : Claim7 := { stood := { row := windowShowsRow, standIns := [], harness := (true, "f7b5bda3c1d23381eaa6acc0b65bbc9ec369845a78b3096ead04690625b523f1"), looks := true }, kinds := [], alts := [], laidByText := true, laidKinds := [.data, .data, .data, .sentinel, .sentinel, .data, .widerDeep], laidTests := true, laidLooks := .later }
def WindowShowsCardSaid : Prop := Claim7.holds Tryd.pinned (.plain (OpenSpec.ofChange windowShowsSpec)) windowShowsCard

/-- THE TIED CARD OF 'bywashlaw12.WindowParses'. -/
def windowParsesCard : Claim7 := { stood := { row := windowParsesRow, standIns := [], harness := (true, "f7b5bda3c1d23381eaa6acc0b65bbc9ec369845a78b3096ead04690625b523f1"), looks := true }, kinds := [], alts := [], laidByText := true, laidKinds := [.data, .data, .data, .sentinel, .sentinel, .data, .widerDeep], laidTests := true, laidLooks := .later }
def WindowParsesCardSaid : Prop := Claim7.holds Tryd.pinned (.plain (OpenSpec.ofChange windowParsesSpec)) windowParsesCard

/-- THE SECOND FORM's CARD OF 'bywashlaw11.SchemeWindows'. -/
def schemeWindowsUptoCard : Claim7 := { stood := { row := schemeWindowsUptoRow, standIns := [], harness := (true, "f7b5bda3c1d23381eaa6acc0b65bbc9ec369845a78b3096ead04690625b523f1"), looks := true }, kinds := [], alts := [], laidByText := true, laidKinds := [.data, .data, .data, .sentinel, .sentinel, .data, .widerDeep], laidTests := true, laidLooks := .later }
def SchemeWindowsUptoCardSaid : Prop := Claim7.holds Tryd.pinned (.plain (OpenSpec.upto schemeWindowsSpec)) schemeWindowsUptoCard

/-- THE SECOND FORM's CARD OF 'bywashlaw11.SchemeShows'. -/
def schemeShowsUptoCard : Claim7 := { stood := { row := schemeShowsUptoRow, standIns := [], harness := (true, "f7b5bda3c1d23381eaa6acc0b65bbc9ec369845a78b3096ead04690625b523f1"), looks := true }, kinds := [], alts := [], laidByText := true, laidKinds := [.data, .data, .data, .sentinel, .sentinel, .data, .widerDeep], laidTests := true, laidLooks := .later }
def SchemeShowsUptoCardSaid : Prop := Claim7.holds Tryd.pinned (.plain (OpenSpec.upto schemeShowsSpec)) schemeShowsUptoCard

/-- THE SECOND FORM's CARD OF 'bywashlaw11.SchemeParses'. -/
def schemeParsesUptoCard : Claim7 := { stood := { row := schemeParsesUptoRow, standIns := [], harness := (true, "f7b5bda3c1d23381eaa6acc0b65bbc9ec369845a78b3096ead04690625b523f1"), looks := true }, kinds := [], alts := [], laidByText := true, laidKinds := [.data, .data, .data, .sentinel, .sentinel, .data, .widerDeep], laidTests := true, laidLooks := .later }
def SchemeParsesUptoCardSaid : Prop := Claim7.holds Tryd.pinned (.plain (OpenSpec.upto schemeParsesSpec)) schemeParsesUptoCard

/-- THE SECOND FORM's CARD OF 'bywashlaw11.SchemeChecks'. -/
def schemeChecksUptoCard : Claim7 := { stood := { row := schemeChecksUptoRow, standIns := [], harness := (true, "f7b5bda3c1d23381eaa6acc0b65bbc9ec369845a78b3096ead04690625b523f1"), looks := true }, kinds := [], alts := [], laidByText := true, laidKinds := [.data, .data, .data, .sentinel, .sentinel, .data, .widerDeep], laidTests := true, laidLooks := .later }
def SchemeChecksUptoCardSaid : Prop := Claim7.holds Tryd.pinned (.plain (OpenSpec.upto schemeChecksSpec)) schemeChecksUptoCard

/-- THE SECOND FORM's CARD OF 'bywashlaw11.SchemeTiles'. -/
def schemeTilesUptoCard : Claim7 := { stood := { row := schemeTilesUptoRow, standIns := [], harness := (true, "f7b5bda3c1d23381eaa6acc0b65bbc9ec369845a78b3096ead04690625b523f1"), looks := true }, kinds := [], alts := [], laidByText := true, laidKinds := [.data, .data, .data, .sentinel, .sentinel, .data, .widerDeep], laidTests := true, laidLooks := .later }
def SchemeTilesUptoCardSaid : Prop := Claim7.holds Tryd.pinned (.plain (OpenSpec.upto schemeTilesSpec)) schemeTilesUptoCard

/-- THE SECOND FORM's CARD OF 'bywashlaw11.SchemeWithin'. -/
def schemeWithinUptoCard : Claim7 := { stood := { row := schemeWithinUptoRow, standIns := [], harness := (true, "f7b5bda3c1d23381eaa6acc0b65bbc9ec369845a78b3096ead04690625b523f1"), looks := true }, kinds := [], alts := [], laidByText := true, laidKinds := [.data, .data, .data, .sentinel, .sentinel, .data, .widerDeep], laidTests := true, laidLooks := .later }
def SchemeWithinUptoCardSaid : Prop := Claim7.holds Tryd.pinned (.plain (OpenSpec.upto schemeWithinSpec)) schemeWithinUptoCard

/-- THE SECOND FORM's CARD OF 'bywashlaw12.WindowNeeds'. -/
def windowNeedsUptoCard : Claim7 := { stood := { row := windowNeedsUptoRow, standIns := [], harness := (true, "f7b5bda3c1d23381eaa6acc0b65bbc9ec369845a78b3096ead04690625b523f1"), looks := true }, kinds := [], alts := [], laidByText := true, laidKinds := [.data, .data, .data, .data, .widerDeep], laidTests := true, laidLooks := .later }
def WindowNeedsUptoCardSaid : Prop := Claim7.holds Tryd.pinned (.plain (OpenSpec.upto windowNeedsSpec)) windowNeedsUptoCard

/-- THE SECOND FORM's CARD OF 'bywashlaw12.WindowChecks'. -/
def windowChecksUptoCard : Claim7 := { stood := { row := windowChecksUptoRow, standIns := [], harness := (true, "f7b5bda3c1d23381eaa6acc0b65bbc9ec369845a78b3096ead04690625b523f1"), looks := true }, kinds := [], alts := [], laidByText := true, laidKinds := [.data, .data, .data, .data, .widerDeep], laidTests := true, laidLooks := .later }
def WindowChecksUptoCardSaid : Prop := Claim7.holds Tryd.pinned (.plain (OpenSpec.upto windowChecksSpec)) windowChecksUptoCard

/-- THE SECOND FORM's CARD OF 'bywashlaw12.WindowBack'. -/
def windowBackUptoCard : Claim7 := { stood := { row := windowBackUptoRow, standIns := [], harness := (true, "f7b5bda3c1d23381eaa6acc0b65bbc9ec369845a78b3096ead04690625b523f1"), looks := true }, kinds := [], alts := [], laidByText := true, laidKinds := [.data, .data, .data, .data, .widerDeep], laidTests := true, laidLooks := .later }
def WindowBackUptoCardSaid : Prop := Claim7.holds Tryd.pinned (.plain (OpenSpec.upto windowBackSpec)) windowBackUptoCard

/-- THE SECOND FORM's CARD OF 'bywashlaw12.WindowBoth'. -/
def windowBothUptoCard : Claim7 := { stood := { row := windowBothUptoRow, standIns := [], harness := (true, "f7b5bda3c1d23381eaa6acc0b65bbc9ec369845a78b3096ead04690625b523f1"), looks := true }, kinds := [], alts := [], laidByText := true, laidKinds := [.data, .data, .data, .data, .widerDeep], laidTests := true, laidLooks := .later }
def WindowBothUptoCardSaid : Prop := Claim7.holds Tryd.pinned (.plain (OpenSpec.upto windowBothSpec)) windowBothUptoCard

/-- THE SECOND FORM's CARD OF 'bywashlaw12.WindowShows'. -/
def windowShowsUptoCard : Claim7 := { stood := { row := windowShowsUptoRow, standIns := [], harness := (true, "f7b5bda3c1d23381eaa6acc0b65bbc9ec369845a78b3096ead04690625b523f1"), looks := true }, kinds := [], alts := [], laidByText := true, laidKinds := [.data, .data, .data, .sentinel, .sentinel, .data, .widerDeep], laidTests := true, laidLooks := .later }
def WindowShowsUptoCardSaid : Prop := Claim7.holds Tryd.pinned (.plain (OpenSpec.upto windowShowsSpec)) windowShowsUptoCard

/-- THE SECOND FORM's CARD OF 'bywashlaw12.WindowParses'. -/
def windowParsesUptoCard : Claim7 := { stood := { row := windowParsesUptoRow, standIns := [], harness := (true, "f7b5bda3c1d23381eaa6acc0b65bbc9ec369845a78b3096ead04690625b523f1"), looks := true }, kinds := [], alts := [], laidByText := true, laidKinds := [.data, .data, .data, .sentinel, .sentinel, .data, .widerDeep], laidTests := true, laidLooks := .later }
def WindowParsesUptoCardSaid : Prop := Claim7.holds Tryd.pinned (.plain (OpenSpec.upto windowParsesSpec)) windowParsesUptoCard
end Rows
end Go.Proofs.YtkapkfddbdgmoaaDoor
