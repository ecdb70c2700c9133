/-
  DERIVED. GIVEN WITH THE SEED: THE CARDS: each row of YtonkjhmkppeagaaGreatDoorRows.lean that lists a variable, with what it lists TIED to the program's text (the seventh form; the later family's looks); each row that meets fmt, with fmt's text TOLD by the authors' own Lean function (tested against real Go, not proved from fmt's source: count such statements apart). THE CARD IS WHAT COUNTS. Prove the row's statement (the work); the ties are given (YtonkjhmkppeagaaGreatDoorTie.lean); close each card by the builder's one call (the guide's Derived/Test/ToyasCard.lean, 'card_holds'). Laid BY PROGRAM, IN A SANDBOX (cutbox-door.mjs). By AI agents, Wed Nov 11 2026. No macro, syntax, notation, axiom, sorry.
-/
import Derived.Test.YtonkjhmkppeagaaGreatDoorRows
import GoSem.ClaimSeven
namespace Go.Proofs.YtonkjhmkppeagaaGreatDoor
namespace Rows

/-- THE TIED CARD OF 'bywashlaw15.ShowExprs'. -/
def showExprsCard : Claim7 := { stood := { row := showExprsRow, standIns := [], harness := (true, "624f2db5373a4943f3f0ec6473730d701211b1f883dfba0e447b6febfd30010f"), looks := true }, kinds := [], alts := [], laidByText := true, laidKinds := [.data, .data, .data, .sentinel, .sentinel, .data, .mapped], laidTests := true, laidLooks := .later }
def ShowExprsCardSaid : Prop := Claim7.holds Tryz.pinned (.plain (OpenSpec.ofChange showExprsSpec)) showExprsCard

/-- THE TIED CARD OF 'bywashlaw15.ShowRaw'. -/
def showRawCard : Claim7 := { stood := { row := showRawRow, standIns := [], harness := (true, "624f2db5373a4943f3f0ec6473730d701211b1f883dfba0e447b6febfd30010f"), looks := true }, kinds := [], alts := [], laidByText := true, laidKinds := [.data, .data, .data, .sentinel, .sentinel, .data, .mapped], laidTests := true, laidLooks := .later }
def ShowRawCardSaid : Prop := Claim7.holds Tryz.pinned (.plain (OpenSpec.ofChange showRawSpec)) showRawCard

/-- THE TIED CARD OF 'bywashlaw14.ParseQueries'. -/
def parseQueriesCard : Claim7 := { stood := { row := parseQueriesRow, standIns := [], harness := (true, "624f2db5373a4943f3f0ec6473730d701211b1f883dfba0e447b6febfd30010f"), looks := true }, kinds := [], alts := [], laidByText := true, laidKinds := [.data, .data, .data, .sentinel, .sentinel, .data], laidTests := true, laidLooks := .later }
def ParseQueriesCardSaid : Prop := Claim7.holds Tryz.pinned (.plain (OpenSpec.ofChange parseQueriesSpec)) parseQueriesCard

/-- THE TIED CARD OF 'bywashlaw14.ParseTexts'. -/
def parseTextsCard : Claim7 := { stood := { row := parseTextsRow, standIns := [], harness := (true, "624f2db5373a4943f3f0ec6473730d701211b1f883dfba0e447b6febfd30010f"), looks := true }, kinds := [], alts := [], laidByText := true, laidKinds := [.data, .data, .data, .sentinel, .sentinel, .data], laidTests := true, laidLooks := .later }
def ParseTextsCardSaid : Prop := Claim7.holds Tryz.pinned (.plain (OpenSpec.ofChange parseTextsSpec)) parseTextsCard

/-- THE TIED CARD OF 'bywashlaw14.ParseSources'. -/
def parseSourcesCard : Claim7 := { stood := { row := parseSourcesRow, standIns := [], harness := (true, "624f2db5373a4943f3f0ec6473730d701211b1f883dfba0e447b6febfd30010f"), looks := true }, kinds := [], alts := [], laidByText := true, laidKinds := [.data, .data, .data, .sentinel, .sentinel, .data], laidTests := true, laidLooks := .later }
def ParseSourcesCardSaid : Prop := Claim7.holds Tryz.pinned (.plain (OpenSpec.ofChange parseSourcesSpec)) parseSourcesCard

/-- THE TIED CARD OF 'bywashlaw14.ParseAssets'. -/
def parseAssetsCard : Claim7 := { stood := { row := parseAssetsRow, standIns := [], harness := (true, "624f2db5373a4943f3f0ec6473730d701211b1f883dfba0e447b6febfd30010f"), looks := true }, kinds := [], alts := [], laidByText := true, laidKinds := [.data, .data, .data, .sentinel, .sentinel, .data], laidTests := true, laidLooks := .later }
def ParseAssetsCardSaid : Prop := Claim7.holds Tryz.pinned (.plain (OpenSpec.ofChange parseAssetsSpec)) parseAssetsCard

/-- THE TIED CARD OF 'bywashlaw14.ParseSchedules'. -/
def parseSchedulesCard : Claim7 := { stood := { row := parseSchedulesRow, standIns := [], harness := (true, "624f2db5373a4943f3f0ec6473730d701211b1f883dfba0e447b6febfd30010f"), looks := true }, kinds := [], alts := [], laidByText := true, laidKinds := [.data, .data, .data, .sentinel, .sentinel, .data], laidTests := true, laidLooks := .later }
def ParseSchedulesCardSaid : Prop := Claim7.holds Tryz.pinned (.plain (OpenSpec.ofChange parseSchedulesSpec)) parseSchedulesCard

/-- THE TIED CARD OF 'bywashlaw15.ShowQueries'. -/
def showQueriesCard : Claim7 := { stood := { row := showQueriesRow, standIns := [], harness := (true, "624f2db5373a4943f3f0ec6473730d701211b1f883dfba0e447b6febfd30010f"), looks := true }, kinds := [], alts := [], laidByText := true, laidKinds := [.data, .data, .data, .sentinel, .sentinel, .data, .mapped], laidTests := true, laidLooks := .later }
def ShowQueriesCardSaid : Prop := Claim7.holds Tryz.pinned (.plain (OpenSpec.ofChange showQueriesSpec)) showQueriesCard

/-- THE TIED CARD OF 'bywashlaw15.ShowCommon'. -/
def showCommonCard : Claim7 := { stood := { row := showCommonRow, standIns := [], harness := (true, "624f2db5373a4943f3f0ec6473730d701211b1f883dfba0e447b6febfd30010f"), looks := true }, kinds := [], alts := [], laidByText := true, laidKinds := [.data, .data, .data, .sentinel, .sentinel, .data, .mapped], laidTests := true, laidLooks := .later }
def ShowCommonCardSaid : Prop := Claim7.holds Tryz.pinned (.plain (OpenSpec.ofChange showCommonSpec)) showCommonCard

/-- THE TIED CARD OF 'bywashlaw15.ShowTexts'. -/
def showTextsCard : Claim7 := { stood := { row := showTextsRow, standIns := [], harness := (true, "624f2db5373a4943f3f0ec6473730d701211b1f883dfba0e447b6febfd30010f"), looks := true }, kinds := [], alts := [], laidByText := true, laidKinds := [.data, .data, .data, .sentinel, .sentinel, .data, .mapped], laidTests := true, laidLooks := .later }
def ShowTextsCardSaid : Prop := Claim7.holds Tryz.pinned (.plain (OpenSpec.ofChange showTextsSpec)) showTextsCard

/-- THE TIED CARD OF 'bywashlaw15.ShowDefs'. -/
def showDefsCard : Claim7 := { stood := { row := showDefsRow, standIns := [], harness := (true, "624f2db5373a4943f3f0ec6473730d701211b1f883dfba0e447b6febfd30010f"), looks := true }, kinds := [], alts := [], laidByText := true, laidKinds := [.data, .data, .data, .sentinel, .sentinel, .data, .mapped], laidTests := true, laidLooks := .later }
def ShowDefsCardSaid : Prop := Claim7.holds Tryz.pinned (.plain (OpenSpec.ofChange showDefsSpec)) showDefsCard

/-- THE SECOND FORM's CARD OF 'bywashlaw15.ShowExprs'. -/
def showExprsUptoCard : Claim7 := { stood := { row := showExprsUptoRow, standIns := [], harness := (true, "624f2db5373a4943f3f0ec6473730d701211b1f883dfba0e447b6febfd30010f"), looks := true }, kinds := [], alts := [], laidByText := true, laidKinds := [.data, .data, .data, .sentinel, .sentinel, .data, .mapped], laidTests := true, laidLooks := .later }
def ShowExprsUptoCardSaid : Prop := Claim7.holds Tryz.pinned (.plain (OpenSpec.upto showExprsSpec)) showExprsUptoCard

/-- THE SECOND FORM's CARD OF 'bywashlaw15.ShowRaw'. -/
def showRawUptoCard : Claim7 := { stood := { row := showRawUptoRow, standIns := [], harness := (true, "624f2db5373a4943f3f0ec6473730d701211b1f883dfba0e447b6febfd30010f"), looks := true }, kinds := [], alts := [], laidByText := true, laidKinds := [.data, .data, .data, .sentinel, .sentinel, .data, .mapped], laidTests := true, laidLooks := .later }
def ShowRawUptoCardSaid : Prop := Claim7.holds Tryz.pinned (.plain (OpenSpec.upto showRawSpec)) showRawUptoCard

/-- THE SECOND FORM's CARD OF 'bywashlaw14.ParseQueries'. -/
def parseQueriesUptoCard : Claim7 := { stood := { row := parseQueriesUptoRow, standIns := [], harness := (true, "624f2db5373a4943f3f0ec6473730d701211b1f883dfba0e447b6febfd30010f"), looks := true }, kinds := [], alts := [], laidByText := true, laidKinds := [.data, .data, .data, .sentinel, .sentinel, .data], laidTests := true, laidLooks := .later }
def ParseQueriesUptoCardSaid : Prop := Claim7.holds Tryz.pinned (.plain (OpenSpec.upto parseQueriesSpec)) parseQueriesUptoCard

/-- THE SECOND FORM's CARD OF 'bywashlaw14.ParseTexts'. -/
def parseTextsUptoCard : Claim7 := { stood := { row := parseTextsUptoRow, standIns := [], harness := (true, "624f2db5373a4943f3f0ec6473730d701211b1f883dfba0e447b6febfd30010f"), looks := true }, kinds := [], alts := [], laidByText := true, laidKinds := [.data, .data, .data, .sentinel, .sentinel, .data], laidTests := true, laidLooks := .later }
def ParseTextsUptoCardSaid : Prop := Claim7.holds Tryz.pinned (.plain (OpenSpec.upto parseTextsSpec)) parseTextsUptoCard

/-- THE SECOND FORM's CARD OF 'bywashlaw14.ParseSources'. -/
def parseSourcesUptoCard : Claim7 := { stood := { row := parseSourcesUptoRow, standIns := [], harness := (true, "624f2db5373a4943f3f0ec6473730d701211b1f883dfba0e447b6febfd30010f"), looks := true }, kinds := [], alts := [], laidByText := true, laidKinds := [.data, .data, .data, .sentinel, .sentinel, .data], laidTests := true, laidLooks := .later }
def ParseSourcesUptoCardSaid : Prop := Claim7.holds Tryz.pinned (.plain (OpenSpec.upto parseSourcesSpec)) parseSourcesUptoCard

/-- THE SECOND FORM's CARD OF 'bywashlaw14.ParseAssets'. -/
def parseAssetsUptoCard : Claim7 := { stood := { row := parseAssetsUptoRow, standIns := [], harness := (true, "624f2db5373a4943f3f0ec6473730d701211b1f883dfba0e447b6febfd30010f"), looks := true }, kinds := [], alts := [], laidByText := true, laidKinds := [.data, .data, .data, .sentinel, .sentinel, .data], laidTests := true, laidLooks := .later }
def ParseAssetsUptoCardSaid : Prop := Claim7.holds Tryz.pinned (.plain (OpenSpec.upto parseAssetsSpec)) parseAssetsUptoCard

/-- THE SECOND FORM's CARD OF 'bywashlaw14.ParseSchedules'. -/
def parseSchedulesUptoCard : Claim7 := { stood := { row := parseSchedulesUptoRow, standIns := [], harness := (true, "624f2db5373a4943f3f0ec6473730d701211b1f883dfba0e447b6febfd30010f"), looks := true }, kinds := [], alts := [], laidByText := true, laidKinds := [.data, .data, .data, .sentinel, .sentinel, .data], laidTests := true, laidLooks := .later }
def ParseSchedulesUptoCardSaid : Prop := Claim7.holds Tryz.pinned (.plain (OpenSpec.upto parseSchedulesSpec)) parseSchedulesUptoCard

/-- THE SECOND FORM's CARD OF 'bywashlaw15.ShowQueries'. -/
def showQueriesUptoCard : Claim7 := { stood := { row := showQueriesUptoRow, standIns := [], harness := (true, "624f2db5373a4943f3f0ec6473730d701211b1f883dfba0e447b6febfd30010f"), looks := true }, kinds := [], alts := [], laidByText := true, laidKinds := [.data, .data, .data, .sentinel, .sentinel, .data, .mapped], laidTests := true, laidLooks := .later }
def ShowQueriesUptoCardSaid : Prop := Claim7.holds Tryz.pinned (.plain (OpenSpec.upto showQueriesSpec)) showQueriesUptoCard

/-- THE SECOND FORM's CARD OF 'bywashlaw15.ShowCommon'. -/
def showCommonUptoCard : Claim7 := { stood := { row := showCommonUptoRow, standIns := [], harness := (true, "624f2db5373a4943f3f0ec6473730d701211b1f883dfba0e447b6febfd30010f"), looks := true }, kinds := [], alts := [], laidByText := true, laidKinds := [.data, .data, .data, .sentinel, .sentinel, .data, .mapped], laidTests := true, laidLooks := .later }
def ShowCommonUptoCardSaid : Prop := Claim7.holds Tryz.pinned (.plain (OpenSpec.upto showCommonSpec)) showCommonUptoCard

/-- THE SECOND FORM's CARD OF 'bywashlaw15.ShowTexts'. -/
def showTextsUptoCard : Claim7 := { stood := { row := showTextsUptoRow, standIns := [], harness := (true, "624f2db5373a4943f3f0ec6473730d701211b1f883dfba0e447b6febfd30010f"), looks := true }, kinds := [], alts := [], laidByText := true, laidKinds := [.data, .data, .data, .sentinel, .sentinel, .data, .mapped], laidTests := true, laidLooks := .later }
def ShowTextsUptoCardSaid : Prop := Claim7.holds Tryz.pinned (.plain (OpenSpec.upto showTextsSpec)) showTextsUptoCard

/-- THE SECOND FORM's CARD OF 'bywashlaw15.ShowDefs'. -/
def showDefsUptoCard : Claim7 := { stood := { row := showDefsUptoRow, standIns := [], harness := (true, "624f2db5373a4943f3f0ec6473730d701211b1f883dfba0e447b6febfd30010f"), looks := true }, kinds := [], alts := [], laidByText := true, laidKinds := [.data, .data, .data, .sentinel, .sentinel, .data, .mapped], laidTests := true, laidLooks := .later }
def ShowDefsUptoCardSaid : Prop := Claim7.holds Tryz.pinned (.plain (OpenSpec.upto showDefsSpec)) showDefsUptoCard
end Rows
end Go.Proofs.YtonkjhmkppeagaaGreatDoor
