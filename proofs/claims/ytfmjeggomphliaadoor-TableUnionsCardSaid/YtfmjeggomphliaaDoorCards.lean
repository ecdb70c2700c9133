/-
  DERIVED. GIVEN WITH THE SEED: THE CARDS: each row of YtfmjeggomphliaaDoorRows.lean that lists a variable, with what it lists TIED to the program's text (the seventh form; the later family's looks); each row that meets fmt, with fmt's text TOLD by the authors' own Lean function (tested against real Go, not proved from fmt's source: count such statements apart). THE CARD IS WHAT COUNTS. Prove the row's statement (the work); the ties are given (YtfmjeggomphliaaDoorTie.lean); close each card by the builder's one call (the guide's Derived/Test/ToyasCard.lean, 'card_holds'). Laid BY PROGRAM, IN A SANDBOX (cutbox-door.mjs). By AI agents, Wed Nov 11 2026. No macro, syntax, notation, axiom, sorry.
-/
import Derived.Test.YtfmjeggomphliaaDoorRows
import GoSem.ClaimSeven
namespace Go.Proofs.YtfmjeggomphliaaDoor
namespace Rows

/-- THE TIED CARD OF 'bywashlaw03.TableCounts'. -/
def tableCountsCard : Claim7 := { stood := { row := tableCountsRow, standIns := [], harness := (true, "7779661c0fdab28541856d8dbb0aa2b50bb8aaffcc8ee981ce6cdf1a686aa7eb"), looks := false }, kinds := [], alts := [], laidByText := true, laidKinds := [.data, .data, .data, .widerDeep], laidTests := true, laidLooks := .later }
def TableCountsCardSaid : Prop := Claim7.holds Tryd.pinned (.plain (OpenSpec.ofChange tableCountsSpec)) tableCountsCard

/-- THE TIED CARD OF 'bywashlaw03.TableDigests'. -/
def tableDigestsCard : Claim7 := { stood := { row := tableDigestsRow, standIns := [], harness := (true, "7779661c0fdab28541856d8dbb0aa2b50bb8aaffcc8ee981ce6cdf1a686aa7eb"), looks := false }, kinds := [], alts := [], laidByText := true, laidKinds := [.data, .data, .data, .widerDeep], laidTests := true, laidLooks := .later }
def TableDigestsCardSaid : Prop := Claim7.holds Tryd.pinned (.plain (OpenSpec.ofChange tableDigestsSpec)) tableDigestsCard

/-- THE TIED CARD OF 'bywashlaw03.TableMakes'. -/
def tableMakesCard : Claim7 := { stood := { row := tableMakesRow, standIns := [], harness := (true, "7779661c0fdab28541856d8dbb0aa2b50bb8aaffcc8ee981ce6cdf1a686aa7eb"), looks := false }, kinds := [], alts := [], laidByText := true, laidKinds := [.data, .data, .data, .widerDeep], laidTests := true, laidLooks := .later }
def TableMakesCardSaid : Prop := Claim7.holds Tryd.pinned (.plain (OpenSpec.ofChange tableMakesSpec)) tableMakesCard

/-- THE TIED CARD OF 'bywashlaw03.TableOrder'. -/
def tableOrderCard : Claim7 := { stood := { row := tableOrderRow, standIns := [], harness := (true, "7779661c0fdab28541856d8dbb0aa2b50bb8aaffcc8ee981ce6cdf1a686aa7eb"), looks := false }, kinds := [], alts := [], laidByText := true, laidKinds := [.data, .data, .data, .widerDeep], laidTests := true, laidLooks := .later }
def TableOrderCardSaid : Prop := Claim7.holds Tryd.pinned (.plain (OpenSpec.ofChange tableOrderSpec)) tableOrderCard

/-- THE TIED CARD OF 'bywashlaw03.TableColumns'. -/
def tableColumnsCard : Claim7 := { stood := { row := tableColumnsRow, standIns := [], harness := (true, "7779661c0fdab28541856d8dbb0aa2b50bb8aaffcc8ee981ce6cdf1a686aa7eb"), looks := false }, kinds := [], alts := [], laidByText := true, laidKinds := [.data, .data, .data, .widerDeep], laidTests := true, laidLooks := .later }
def TableColumnsCardSaid : Prop := Claim7.holds Tryd.pinned (.plain (OpenSpec.ofChange tableColumnsSpec)) tableColumnsCard

/-- THE TIED CARD OF 'bywashlaw03.TableUnions'. -/
def tableUnionsCard : Claim7 := { stood := { row := tableUnionsRow, standIns := [], harness := (true, "7779661c0fdab28541856d8dbb0aa2b50bb8aaffcc8ee981ce6cdf1a686aa7eb"), looks := false }, kinds := [], alts := [], laidByText := true, laidKinds := [.data, .data, .data, .widerDeep], laidTests := true, laidLooks := .later }
def TableUnionsCardSaid : Prop := Claim7.holds Tryd.pinned (.plain (OpenSpec.ofChange tableUnionsSpec)) tableUnionsCard

/-- THE SECOND FORM's CARD OF 'bywashlaw03.TableCounts'. -/
def tableCountsUptoCard : Claim7 := { stood := { row := tableCountsUptoRow, standIns := [], harness := (true, "7779661c0fdab28541856d8dbb0aa2b50bb8aaffcc8ee981ce6cdf1a686aa7eb"), looks := false }, kinds := [], alts := [], laidByText := true, laidKinds := [.data, .data, .data, .widerDeep], laidTests := true, laidLooks := .later }
def TableCountsUptoCardSaid : Prop := Claim7.holds Tryd.pinned (.plain (OpenSpec.upto tableCountsSpec)) tableCountsUptoCard

/-- THE SECOND FORM's CARD OF 'bywashlaw03.TableDigests'. -/
def tableDigestsUptoCard : Claim7 := { stood := { row := tableDigestsUptoRow, standIns := [], harness := (true, "7779661c0fdab28541856d8dbb0aa2b50bb8aaffcc8ee981ce6cdf1a686aa7eb"), looks := false }, kinds := [], alts := [], laidByText := true, laidKinds := [.data, .data, .data, .widerDeep], laidTests := true, laidLooks := .later }
def TableDigestsUptoCardSaid : Prop := Claim7.holds Tryd.pinned (.plain (OpenSpec.upto tableDigestsSpec)) tableDigestsUptoCard

/-- THE SECOND FORM's CARD OF 'bywashlaw03.TableMakes'. -/
def tableMakesUptoCard : Claim7 := { stood := { row := tableMakesUptoRow, standIns := [], harness := (true, "7779661c0fdab28541856d8dbb0aa2b50bb8aaffcc8ee981ce6cdf1a686aa7eb"), looks := false }, kinds := [], alts := [], laidByText := true, laidKinds := [.data, .data, .data, .widerDeep], laidTests := true, laidLooks := .later }
def TableMakesUptoCardSaid : Prop := Claim7.holds Tryd.pinned (.plain (OpenSpec.upto tableMakesSpec)) tableMakesUptoCard

/-- THE SECOND FORM's CARD OF 'bywashlaw03.TableOrder'. -/
def tableOrderUptoCard : Claim7 := { stood := { row := tableOrderUptoRow, standIns := [], harness := (true, "7779661c0fdab28541856d8dbb0aa2b50bb8aaffcc8ee981ce6cdf1a686aa7eb"), looks := false }, kinds := [], alts := [], laidByText := true, laidKinds := [.data, .data, .data, .widerDeep], laidTests := true, laidLooks := .later }
def TableOrderUptoCardSaid : Prop := Claim7.holds Tryd.pinned (.plain (OpenSpec.upto tableOrderSpec)) tableOrderUptoCard

/-- THE SECOND FORM's CARD OF 'bywashlaw03.TableColumns'. -/
def tableColumnsUptoCard : Claim7 := { stood := { row := tableColumnsUptoRow, standIns := [], harness := (true, "7779661c0fdab28541856d8dbb0aa2b50bb8aaffcc8ee981ce6cdf1a686aa7eb"), looks := false }, kinds := [], alts := [], laidByText := true, laidKinds := [.data, .data, .data, .widerDeep], laidTests := true, laidLooks := .later }
def TableColumnsUptoCardSaid : Prop := Claim7.holds Tryd.pinned (.plain (OpenSpec.upto tableColumnsSpec)) tableColumnsUptoCard

/-- THE SECOND FORM's CARD OF 'bywashlaw03.TableUnions'. -/
def tableUnionsUptoCard : Claim7 := { stood := { row := tableUnionsUptoRow, standIns := [], harness := (true, "7779661c0fdab28541856d8dbb0aa2b50bb8aaffcc8ee981ce6cdf1a686aa7eb"), looks := false }, kinds := [], alts := [], laidByText := true, laidKinds := [.data, .data, .data, .widerDeep], laidTests := true, laidLooks := .later }
def TableUnionsUptoCardSaid : Prop := Claim7.holds Tryd.pinned (.plain (OpenSpec.upto tableUnionsSpec)) tableUnionsUptoCard
end Rows
end Go.Proofs.YtfmjeggomphliaaDoor
