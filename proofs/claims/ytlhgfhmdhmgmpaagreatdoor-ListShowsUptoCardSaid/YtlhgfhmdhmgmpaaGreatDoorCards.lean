/-
  DERIVED. GIVEN WITH THE SEED: THE CARDS: each row of YtlhgfhmdhmgmpaaGreatDoorRows.lean that lists a variable, with what it lists TIED to the program's text (the seventh form; the later family's looks); each row that meets fmt, with fmt's text TOLD by the authors' own Lean function (tested against real Go, not proved from fmt's source: count such statements apart). THE CARD IS WHAT COUNTS. Prove the row's statement (the work); the ties are given (YtlhgfhmdhmgmpaaGreatDoorTie.lean); close each card by the builder's one call (the guide's Derived/Test/ToyasCard.lean, 'card_holds'). Laid BY PROGRAM, IN A SANDBOX (cutbox-door.mjs). By AI agents, Wed Nov 11 2026. No macro, syntax, notation, axiom, sorry.
-/
import Derived.Test.YtlhgfhmdhmgmpaaGreatDoorRows
import GoSem.ClaimSeven
namespace Go.Proofs.YtlhgfhmdhmgmpaaGreatDoor
namespace Rows

/-- THE TIED CARD OF 'switchbacklaw22.ListPrints'. -/
def listPrintsCard : Claim7 := { stood := { row := listPrintsRow, standIns := [], harness := (true, "b93c1f3001d4af86f62da3f9c795827e23be9a7ef6348afcd02df0c012a52811"), looks := true }, kinds := [], alts := [], laidByText := true, laidKinds := [.data, .data, .data, .data, .sentinel, .sentinel, .listed, .data], laidTests := true, laidLooks := .later }
def ListPrintsCardSaid : Prop := Claim7.holds Tryz.pinned (.plain (OpenSpec.ofChange listPrintsSpec)) listPrintsCard

/-- THE TIED CARD OF 'switchbacklaw22.ListParses'. -/
def listParsesCard : Claim7 := { stood := { row := listParsesRow, standIns := [], harness := (true, "b93c1f3001d4af86f62da3f9c795827e23be9a7ef6348afcd02df0c012a52811"), looks := true }, kinds := [], alts := [], laidByText := true, laidKinds := [.data, .data, .data, .data, .sentinel, .sentinel, .listed, .data], laidTests := true, laidLooks := .later }
def ListParsesCardSaid : Prop := Claim7.holds Tryz.pinned (.plain (OpenSpec.ofChange listParsesSpec)) listParsesCard

/-- THE TIED CARD OF 'switchbacklaw22.ListShows'. -/
def listShowsCard : Claim7 := { stood := { row := listShowsRow, standIns := [], harness := (true, "b93c1f3001d4af86f62da3f9c795827e23be9a7ef6348afcd02df0c012a52811"), looks := true }, kinds := [], alts := [], laidByText := true, laidKinds := [.data, .data, .data, .data, .sentinel, .sentinel, .listed, .data], laidTests := true, laidLooks := .later }
def ListShowsCardSaid : Prop := Claim7.holds Tryz.pinned (.plain (OpenSpec.ofChange listShowsSpec)) listShowsCard

/-- THE TIED CARD OF 'switchbacklaw22.ListWords'. -/
def listWordsCard : Claim7 := { stood := { row := listWordsRow, standIns := [], harness := (true, "b93c1f3001d4af86f62da3f9c795827e23be9a7ef6348afcd02df0c012a52811"), looks := true }, kinds := [], alts := [], laidByText := true, laidKinds := [.data, .data, .data, .data, .sentinel, .sentinel, .listed, .data], laidTests := true, laidLooks := .later }
def ListWordsCardSaid : Prop := Claim7.holds Tryz.pinned (.plain (OpenSpec.ofChange listWordsSpec)) listWordsCard

/-- THE SECOND FORM's CARD OF 'switchbacklaw22.ListPrints'. -/
def listPrintsUptoCard : Claim7 := { stood := { row := listPrintsUptoRow, standIns := [], harness := (true, "b93c1f3001d4af86f62da3f9c795827e23be9a7ef6348afcd02df0c012a52811"), looks := true }, kinds := [], alts := [], laidByText := true, laidKinds := [.data, .data, .data, .data, .sentinel, .sentinel, .listed, .data], laidTests := true, laidLooks := .later }
def ListPrintsUptoCardSaid : Prop := Claim7.holds Tryz.pinned (.plain (OpenSpec.upto listPrintsSpec)) listPrintsUptoCard

/-- THE SECOND FORM's CARD OF 'switchbacklaw22.ListParses'. -/
def listParsesUptoCard : Claim7 := { stood := { row := listParsesUptoRow, standIns := [], harness := (true, "b93c1f3001d4af86f62da3f9c795827e23be9a7ef6348afcd02df0c012a52811"), looks := true }, kinds := [], alts := [], laidByText := true, laidKinds := [.data, .data, .data, .data, .sentinel, .sentinel, .listed, .data], laidTests := true, laidLooks := .later }
def ListParsesUptoCardSaid : Prop := Claim7.holds Tryz.pinned (.plain (OpenSpec.upto listParsesSpec)) listParsesUptoCard

/-- THE SECOND FORM's CARD OF 'switchbacklaw22.ListShows'. -/
def listShowsUptoCard : Claim7 := { stood := { row := listShowsUptoRow, standIns := [], harness := (true, "b93c1f3001d4af86f62da3f9c795827e23be9a7ef6348afcd02df0c012a52811"), looks := true }, kinds := [], alts := [], laidByText := true, laidKinds := [.data, .data, .data, .data, .sentinel, .sentinel, .listed, .data], laidTests := true, laidLooks := .later }
def ListShowsUptoCardSaid : Prop := Claim7.holds Tryz.pinned (.plain (OpenSpec.upto listShowsSpec)) listShowsUptoCard

/-- THE SECOND FORM's CARD OF 'switchbacklaw22.ListWords'. -/
def listWordsUptoCard : Claim7 := { stood := { row := listWordsUptoRow, standIns := [], harness := (true, "b93c1f3001d4af86f62da3f9c795827e23be9a7ef6348afcd02df0c012a52811"), looks := true }, kinds := [], alts := [], laidByText := true, laidKinds := [.data, .data, .data, .data, .sentinel, .sentinel, .listed, .data], laidTests := true, laidLooks := .later }
def ListWordsUptoCardSaid : Prop := Claim7.holds Tryz.pinned (.plain (OpenSpec.upto listWordsSpec)) listWordsUptoCard
end Rows
end Go.Proofs.YtlhgfhmdhmgmpaaGreatDoor
