/-
  DERIVED. GIVEN WITH THE SEED: THE CARDS: each row of YtfmjeggomphliaaGreatDoorRows.lean that lists a variable, with what it lists TIED to the program's text (the seventh form; the later family's looks); each row that meets fmt, with fmt's text TOLD by the authors' own Lean function (tested against real Go, not proved from fmt's source: count such statements apart). THE CARD IS WHAT COUNTS. Prove the row's statement (the work); the ties are given (YtfmjeggomphliaaGreatDoorTie.lean); close each card by the builder's one call (the guide's Derived/Test/ToyasCard.lean, 'card_holds'). Laid BY PROGRAM, IN A SANDBOX (cutbox-door.mjs). By AI agents, Wed Nov 11 2026. No macro, syntax, notation, axiom, sorry.
-/
import Derived.Test.YtfmjeggomphliaaGreatDoorRows
import GoSem.ClaimSeven
namespace Go.Proofs.YtfmjeggomphliaaGreatDoor
namespace Rows

/-- THE TIED CARD OF 'bywashlaw03.TableParses'. -/
def tableParsesCard : Claim7 := { stood := { row := tableParsesRow, standIns := [], harness := (true, "d0a7e23924730ecb9ec577f5393c773d29b11519d6cce4a2f79e07de8ecb6619"), looks := true }, kinds := [], alts := [], laidByText := true, laidKinds := [.data, .data, .data, .data, .sentinel, .sentinel, .widerDeep, .pinned], laidTests := true, laidLooks := .later }
def TableParsesCardSaid : Prop := Claim7.holds Tryz.pinned (.plain (OpenSpec.ofChange tableParsesSpec)) tableParsesCard

/-- THE TIED CARD OF 'bywashlaw03.TableShows'. -/
def tableShowsCard : Claim7 := { stood := { row := tableShowsRow, standIns := [], harness := (true, "d0a7e23924730ecb9ec577f5393c773d29b11519d6cce4a2f79e07de8ecb6619"), looks := true }, kinds := [], alts := [], laidByText := true, laidKinds := [.data, .data, .data, .data, .sentinel, .sentinel, .widerDeep, .pinned], laidTests := true, laidLooks := .later }
def TableShowsCardSaid : Prop := Claim7.holds Tryz.pinned (.plain (OpenSpec.ofChange tableShowsSpec)) tableShowsCard

/-- THE SECOND FORM's CARD OF 'bywashlaw03.TableParses'. -/
def tableParsesUptoCard : Claim7 := { stood := { row := tableParsesUptoRow, standIns := [], harness := (true, "d0a7e23924730ecb9ec577f5393c773d29b11519d6cce4a2f79e07de8ecb6619"), looks := true }, kinds := [], alts := [], laidByText := true, laidKinds := [.data, .data, .data, .data, .sentinel, .sentinel, .widerDeep, .pinned], laidTests := true, laidLooks := .later }
def TableParsesUptoCardSaid : Prop := Claim7.holds Tryz.pinned (.plain (OpenSpec.upto tableParsesSpec)) tableParsesUptoCard

/-- THE SECOND FORM's CARD OF 'bywashlaw03.TableShows'. -/
def tableShowsUptoCard : Claim7 := { stood := { row := tableShowsUptoRow, standIns := [], harness := (true, "d0a7e23924730ecb9ec577f5393c773d29b11519d6cce4a2f79e07de8ecb6619"), looks := true }, kinds := [], alts := [], laidByText := true, laidKinds := [.data, .data, .data, .data, .sentinel, .sentinel, .widerDeep, .pinned], laidTests := true, laidLooks := .later }
def TableShowsUptoCardSaid : Prop := Claim7.holds Tryz.pinned (.plain (OpenSpec.upto tableShowsSpec)) tableShowsUptoCard
end Rows
end Go.Proofs.YtfmjeggomphliaaGreatDoor
