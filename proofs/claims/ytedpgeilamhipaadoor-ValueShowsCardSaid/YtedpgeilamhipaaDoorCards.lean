/-
  DERIVED. GIVEN WITH THE SEED: THE CARDS: each row of YtedpgeilamhipaaDoorRows.lean that lists a variable, with what it lists TIED to the program's text (the seventh form; the later family's looks); each row that meets fmt, with fmt's text TOLD by the authors' own Lean function (tested against real Go, not proved from fmt's source: count such statements apart). THE CARD IS WHAT COUNTS. Prove the row's statement (the work); the ties are given (YtedpgeilamhipaaDoorTie.lean); close each card by the builder's one call (the guide's Derived/Test/ToyasCard.lean, 'card_holds'). Laid BY PROGRAM, IN A SANDBOX (cutbox-door.mjs). By AI agents, Wed Nov 11 2026. No macro, syntax, notation, axiom, sorry.
-/
import Derived.Test.YtedpgeilamhipaaDoorRows
import GoSem.ClaimSeven
namespace Go.Proofs.YtedpgeilamhipaaDoor
namespace Rows

/-- THE TIED CARD OF 'bywashlaw01.ValueMakes'. -/
def valueMakesCard : Claim7 := { stood := { row := valueMakesRow, standIns := [], harness := (true, "dc48a40a999d96e71cb0057eda5f3be4f54aebe83324f30557bf59baf1238be6"), looks := true }, kinds := [], alts := [], laidByText := true, laidKinds := [.data, .data, .data], laidTests := true, laidLooks := .later }
def ValueMakesCardSaid : Prop := Claim7.holds Tryd.pinned (.plain (OpenSpec.ofChange valueMakesSpec)) valueMakesCard

/-- THE TIED CARD OF 'bywashlaw01.ValueSums'. -/
def valueSumsCard : Claim7 := { stood := { row := valueSumsRow, standIns := [], harness := (true, "dc48a40a999d96e71cb0057eda5f3be4f54aebe83324f30557bf59baf1238be6"), looks := true }, kinds := [], alts := [], laidByText := true, laidKinds := [.data, .data, .data], laidTests := true, laidLooks := .later }
def ValueSumsCardSaid : Prop := Claim7.holds Tryd.pinned (.plain (OpenSpec.ofChange valueSumsSpec)) valueSumsCard

/-- THE TIED CARD OF 'bywashlaw01.ValueQuotients'. -/
def valueQuotientsCard : Claim7 := { stood := { row := valueQuotientsRow, standIns := [], harness := (true, "dc48a40a999d96e71cb0057eda5f3be4f54aebe83324f30557bf59baf1238be6"), looks := true }, kinds := [], alts := [], laidByText := true, laidKinds := [.data, .data, .data], laidTests := true, laidLooks := .later }
def ValueQuotientsCardSaid : Prop := Claim7.holds Tryd.pinned (.plain (OpenSpec.ofChange valueQuotientsSpec)) valueQuotientsCard

/-- THE TIED CARD OF 'bywashlaw01.ValueProducts'. -/
def valueProductsCard : Claim7 := { stood := { row := valueProductsRow, standIns := [], harness := (true, "dc48a40a999d96e71cb0057eda5f3be4f54aebe83324f30557bf59baf1238be6"), looks := true }, kinds := [], alts := [], laidByText := true, laidKinds := [.data, .data, .data], laidTests := true, laidLooks := .later }
def ValueProductsCardSaid : Prop := Claim7.holds Tryd.pinned (.plain (OpenSpec.ofChange valueProductsSpec)) valueProductsCard

/-- THE TIED CARD OF 'bywashlaw01.ValueKinds'. -/
def valueKindsCard : Claim7 := { stood := { row := valueKindsRow, standIns := [], harness := (true, "dc48a40a999d96e71cb0057eda5f3be4f54aebe83324f30557bf59baf1238be6"), looks := true }, kinds := [], alts := [], laidByText := true, laidKinds := [.data, .data, .data], laidTests := true, laidLooks := .later }
def ValueKindsCardSaid : Prop := Claim7.holds Tryd.pinned (.plain (OpenSpec.ofChange valueKindsSpec)) valueKindsCard

/-- THE TIED CARD OF 'bywashlaw01.ValueOrders'. -/
def valueOrdersCard : Claim7 := { stood := { row := valueOrdersRow, standIns := [], harness := (true, "dc48a40a999d96e71cb0057eda5f3be4f54aebe83324f30557bf59baf1238be6"), looks := true }, kinds := [], alts := [], laidByText := true, laidKinds := [.data, .data, .data], laidTests := true, laidLooks := .later }
def ValueOrdersCardSaid : Prop := Claim7.holds Tryd.pinned (.plain (OpenSpec.ofChange valueOrdersSpec)) valueOrdersCard

/-- THE TIED CARD OF 'bywashlaw01.ValueCompares'. -/
def valueComparesCard : Claim7 := { stood := { row := valueComparesRow, standIns := [], harness := (true, "dc48a40a999d96e71cb0057eda5f3be4f54aebe83324f30557bf59baf1238be6"), looks := true }, kinds := [], alts := [], laidByText := true, laidKinds := [.data, .data, .data], laidTests := true, laidLooks := .later }
def ValueComparesCardSaid : Prop := Claim7.holds Tryd.pinned (.plain (OpenSpec.ofChange valueComparesSpec)) valueComparesCard

/-- THE TIED CARD OF 'bywashlaw01.ValueShows'. -/
def valueShowsCard : Claim7 := { stood := { row := valueShowsRow, standIns := [], harness := (true, "dc48a40a999d96e71cb0057eda5f3be4f54aebe83324f30557bf59baf1238be6"), looks := true }, kinds := [], alts := [], laidByText := true, laidKinds := [.data, .data, .data, .sentinel, .sentinel], laidTests := true, laidLooks := .later }
def ValueShowsCardSaid : Prop := Claim7.holds Tryd.pinned (.plain (OpenSpec.ofChange valueShowsSpec)) valueShowsCard

/-- THE TIED CARD OF 'bywashlaw01.ValueParses'. -/
def valueParsesCard : Claim7 := { stood := { row := valueParsesRow, standIns := [], harness := (true, "dc48a40a999d96e71cb0057eda5f3be4f54aebe83324f30557bf59baf1238be6"), looks := true }, kinds := [], alts := [], laidByText := true, laidKinds := [.data, .data, .data, .sentinel, .sentinel], laidTests := true, laidLooks := .later }
def ValueParsesCardSaid : Prop := Claim7.holds Tryd.pinned (.plain (OpenSpec.ofChange valueParsesSpec)) valueParsesCard

/-- THE SECOND FORM's CARD OF 'bywashlaw01.ValueMakes'. -/
def valueMakesUptoCard : Claim7 := { stood := { row := valueMakesUptoRow, standIns := [], harness := (true, "dc48a40a999d96e71cb0057eda5f3be4f54aebe83324f30557bf59baf1238be6"), looks := true }, kinds := [], alts := [], laidByText := true, laidKinds := [.data, .data, .data], laidTests := true, laidLooks := .later }
def ValueMakesUptoCardSaid : Prop := Claim7.holds Tryd.pinned (.plain (OpenSpec.upto valueMakesSpec)) valueMakesUptoCard

/-- THE SECOND FORM's CARD OF 'bywashlaw01.ValueSums'. -/
def valueSumsUptoCard : Claim7 := { stood := { row := valueSumsUptoRow, standIns := [], harness := (true, "dc48a40a999d96e71cb0057eda5f3be4f54aebe83324f30557bf59baf1238be6"), looks := true }, kinds := [], alts := [], laidByText := true, laidKinds := [.data, .data, .data], laidTests := true, laidLooks := .later }
def ValueSumsUptoCardSaid : Prop := Claim7.holds Tryd.pinned (.plain (OpenSpec.upto valueSumsSpec)) valueSumsUptoCard

/-- THE SECOND FORM's CARD OF 'bywashlaw01.ValueQuotients'. -/
def valueQuotientsUptoCard : Claim7 := { stood := { row := valueQuotientsUptoRow, standIns := [], harness := (true, "dc48a40a999d96e71cb0057eda5f3be4f54aebe83324f30557bf59baf1238be6"), looks := true }, kinds := [], alts := [], laidByText := true, laidKinds := [.data, .data, .data], laidTests := true, laidLooks := .later }
def ValueQuotientsUptoCardSaid : Prop := Claim7.holds Tryd.pinned (.plain (OpenSpec.upto valueQuotientsSpec)) valueQuotientsUptoCard

/-- THE SECOND FORM's CARD OF 'bywashlaw01.ValueProducts'. -/
def valueProductsUptoCard : Claim7 := { stood := { row := valueProductsUptoRow, standIns := [], harness := (true, "dc48a40a999d96e71cb0057eda5f3be4f54aebe83324f30557bf59baf1238be6"), looks := true }, kinds := [], alts := [], laidByText := true, laidKinds := [.data, .data, .data], laidTests := true, laidLooks := .later }
def ValueProductsUptoCardSaid : Prop := Claim7.holds Tryd.pinned (.plain (OpenSpec.upto valueProductsSpec)) valueProductsUptoCard

/-- THE SECOND FORM's CARD OF 'bywashlaw01.ValueKinds'. -/
def valueKindsUptoCard : Claim7 := { stood := { row := valueKindsUptoRow, standIns := [], harness := (true, "dc48a40a999d96e71cb0057eda5f3be4f54aebe83324f30557bf59baf1238be6"), looks := true }, kinds := [], alts := [], laidByText := true, laidKinds := [.data, .data, .data], laidTests := true, laidLooks := .later }
def ValueKindsUptoCardSaid : Prop := Claim7.holds Tryd.pinned (.plain (OpenSpec.upto valueKindsSpec)) valueKindsUptoCard

/-- THE SECOND FORM's CARD OF 'bywashlaw01.ValueOrders'. -/
def valueOrdersUptoCard : Claim7 := { stood := { row := valueOrdersUptoRow, standIns := [], harness := (true, "dc48a40a999d96e71cb0057eda5f3be4f54aebe83324f30557bf59baf1238be6"), looks := true }, kinds := [], alts := [], laidByText := true, laidKinds := [.data, .data, .data], laidTests := true, laidLooks := .later }
def ValueOrdersUptoCardSaid : Prop := Claim7.holds Tryd.pinned (.plain (OpenSpec.upto valueOrdersSpec)) valueOrdersUptoCard

/-- THE SECOND FORM's CARD OF 'bywashlaw01.ValueCompares'. -/
def valueComparesUptoCard : Claim7 := { stood := { row := valueComparesUptoRow, standIns := [], harness := (true, "dc48a40a999d96e71cb0057eda5f3be4f54aebe83324f30557bf59baf1238be6"), looks := true }, kinds := [], alts := [], laidByText := true, laidKinds := [.data, .data, .data], laidTests := true, laidLooks := .later }
def ValueComparesUptoCardSaid : Prop := Claim7.holds Tryd.pinned (.plain (OpenSpec.upto valueComparesSpec)) valueComparesUptoCard

/-- THE SECOND FORM's CARD OF 'bywashlaw01.ValueShows'. -/
def valueShowsUptoCard : Claim7 := { stood := { row := valueShowsUptoRow, standIns := [], harness := (true, "dc48a40a999d96e71cb0057eda5f3be4f54aebe83324f30557bf59baf1238be6"), looks := true }, kinds := [], alts := [], laidByText := true, laidKinds := [.data, .data, .data, .sentinel, .sentinel], laidTests := true, laidLooks := .later }
def ValueShowsUptoCardSaid : Prop := Claim7.holds Tryd.pinned (.plain (OpenSpec.upto valueShowsSpec)) valueShowsUptoCard

/-- THE SECOND FORM's CARD OF 'bywashlaw01.ValueParses'. -/
def valueParsesUptoCard : Claim7 := { stood := { row := valueParsesUptoRow, standIns := [], harness := (true, "dc48a40a999d96e71cb0057eda5f3be4f54aebe83324f30557bf59baf1238be6"), looks := true }, kinds := [], alts := [], laidByText := true, laidKinds := [.data, .data, .data, .sentinel, .sentinel], laidTests := true, laidLooks := .later }
def ValueParsesUptoCardSaid : Prop := Claim7.holds Tryd.pinned (.plain (OpenSpec.upto valueParsesSpec)) valueParsesUptoCard
end Rows
end Go.Proofs.YtedpgeilamhipaaDoor
