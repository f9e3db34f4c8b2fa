/-
  DERIVED. GIVEN WITH THE SEED: THE CARDS: each row of YtopkklkilbnheaaDoorRows.lean that lists a variable, with what it lists TIED to the program's text (the seventh form; the later family's looks); each row that meets fmt, with fmt's text TOLD by the authors' own Lean function (tested against real Go, not proved from fmt's source: count such statements apart). THE CARD IS WHAT COUNTS. Prove the row's statement (the work); the ties are given (YtopkklkilbnheaaDoorTie.lean); close each card by the builder's one call (the guide's Derived/Test/ToyasCard.lean, 'card_holds'). Laid BY PROGRAM, IN A SANDBOX (cutbox-door.mjs). By AI agents, Wed Nov 11 2026. No macro, syntax, notation, axiom, sorry.
-/
import Derived.Test.YtopkklkilbnheaaDoorRows
import GoSem.ClaimSeven
namespace Go.Proofs.YtopkklkilbnheaaDoor
namespace Rows

/-- THE TIED CARD OF 'switchbacklaw16.EncWrites'. -/
def encWritesCard : Claim7 := { stood := { row := encWritesRow, standIns := [], harness := (true, "d83cd968ca41fdd1247f14b51e3dc746c1eeee355bcdaa974ef26936dc4b5b97"), looks := false }, kinds := [], alts := [], laidByText := true, laidKinds := [.data], laidTests := true, laidLooks := .later }
def EncWritesCardSaid : Prop := Claim7.holds Tryd.pinned (.plain (OpenSpec.ofChange encWritesSpec)) encWritesCard

/-- THE TIED CARD OF 'switchbacklaw16.EncReads'. -/
def encReadsCard : Claim7 := { stood := { row := encReadsRow, standIns := [], harness := (true, "d83cd968ca41fdd1247f14b51e3dc746c1eeee355bcdaa974ef26936dc4b5b97"), looks := false }, kinds := [], alts := [], laidByText := true, laidKinds := [.data], laidTests := true, laidLooks := .later }
def EncReadsCardSaid : Prop := Claim7.holds Tryd.pinned (.plain (OpenSpec.ofChange encReadsSpec)) encReadsCard

/-- THE TIED CARD OF 'switchbacklaw16.EncFollows'. -/
def encFollowsCard : Claim7 := { stood := { row := encFollowsRow, standIns := [], harness := (true, "d83cd968ca41fdd1247f14b51e3dc746c1eeee355bcdaa974ef26936dc4b5b97"), looks := false }, kinds := [], alts := [], laidByText := true, laidKinds := [.data], laidTests := true, laidLooks := .later }
def EncFollowsCardSaid : Prop := Claim7.holds Tryd.pinned (.plain (OpenSpec.ofChange encFollowsSpec)) encFollowsCard

/-- THE TIED CARD OF 'switchbacklaw16.EncBack'. -/
def encBackCard : Claim7 := { stood := { row := encBackRow, standIns := [], harness := (true, "d83cd968ca41fdd1247f14b51e3dc746c1eeee355bcdaa974ef26936dc4b5b97"), looks := false }, kinds := [], alts := [], laidByText := true, laidKinds := [.data], laidTests := true, laidLooks := .later }
def EncBackCardSaid : Prop := Claim7.holds Tryd.pinned (.plain (OpenSpec.ofChange encBackSpec)) encBackCard

/-- THE TIED CARD OF 'switchbacklaw16.EncApart'. -/
def encApartCard : Claim7 := { stood := { row := encApartRow, standIns := [], harness := (true, "d83cd968ca41fdd1247f14b51e3dc746c1eeee355bcdaa974ef26936dc4b5b97"), looks := false }, kinds := [], alts := [], laidByText := true, laidKinds := [.data], laidTests := true, laidLooks := .later }
def EncApartCardSaid : Prop := Claim7.holds Tryd.pinned (.plain (OpenSpec.ofChange encApartSpec)) encApartCard

/-- THE TIED CARD OF 'switchbacklaw16.EncFields'. -/
def encFieldsCard : Claim7 := { stood := { row := encFieldsRow, standIns := [], harness := (true, "d83cd968ca41fdd1247f14b51e3dc746c1eeee355bcdaa974ef26936dc4b5b97"), looks := false }, kinds := [], alts := [], laidByText := true, laidKinds := [.data], laidTests := true, laidLooks := .later }
def EncFieldsCardSaid : Prop := Claim7.holds Tryd.pinned (.plain (OpenSpec.ofChange encFieldsSpec)) encFieldsCard

/-- THE SECOND FORM's CARD OF 'switchbacklaw16.EncWrites'. -/
def encWritesUptoCard : Claim7 := { stood := { row := encWritesUptoRow, standIns := [], harness := (true, "d83cd968ca41fdd1247f14b51e3dc746c1eeee355bcdaa974ef26936dc4b5b97"), looks := false }, kinds := [], alts := [], laidByText := true, laidKinds := [.data], laidTests := true, laidLooks := .later }
def EncWritesUptoCardSaid : Prop := Claim7.holds Tryd.pinned (.plain (OpenSpec.upto encWritesSpec)) encWritesUptoCard

/-- THE SECOND FORM's CARD OF 'switchbacklaw16.EncReads'. -/
def encReadsUptoCard : Claim7 := { stood := { row := encReadsUptoRow, standIns := [], harness := (true, "d83cd968ca41fdd1247f14b51e3dc746c1eeee355bcdaa974ef26936dc4b5b97"), looks := false }, kinds := [], alts := [], laidByText := true, laidKinds := [.data], laidTests := true, laidLooks := .later }
def EncReadsUptoCardSaid : Prop := Claim7.holds Tryd.pinned (.plain (OpenSpec.upto encReadsSpec)) encReadsUptoCard

/-- THE SECOND FORM's CARD OF 'switchbacklaw16.EncFollows'. -/
def encFollowsUptoCard : Claim7 := { stood := { row := encFollowsUptoRow, standIns := [], harness := (true, "d83cd968ca41fdd1247f14b51e3dc746c1eeee355bcdaa974ef26936dc4b5b97"), looks := false }, kinds := [], alts := [], laidByText := true, laidKinds := [.data], laidTests := true, laidLooks := .later }
def EncFollowsUptoCardSaid : Prop := Claim7.holds Tryd.pinned (.plain (OpenSpec.upto encFollowsSpec)) encFollowsUptoCard

/-- THE SECOND FORM's CARD OF 'switchbacklaw16.EncBack'. -/
def encBackUptoCard : Claim7 := { stood := { row := encBackUptoRow, standIns := [], harness := (true, "d83cd968ca41fdd1247f14b51e3dc746c1eeee355bcdaa974ef26936dc4b5b97"), looks := false }, kinds := [], alts := [], laidByText := true, laidKinds := [.data], laidTests := true, laidLooks := .later }
def EncBackUptoCardSaid : Prop := Claim7.holds Tryd.pinned (.plain (OpenSpec.upto encBackSpec)) encBackUptoCard

/-- THE SECOND FORM's CARD OF 'switchbacklaw16.EncApart'. -/
def encApartUptoCard : Claim7 := { stood := { row := encApartUptoRow, standIns := [], harness := (true, "d83cd968ca41fdd1247f14b51e3dc746c1eeee355bcdaa974ef26936dc4b5b97"), looks := false }, kinds := [], alts := [], laidByText := true, laidKinds := [.data], laidTests := true, laidLooks := .later }
def EncApartUptoCardSaid : Prop := Claim7.holds Tryd.pinned (.plain (OpenSpec.upto encApartSpec)) encApartUptoCard

/-- THE SECOND FORM's CARD OF 'switchbacklaw16.EncFields'. -/
def encFieldsUptoCard : Claim7 := { stood := { row := encFieldsUptoRow, standIns := [], harness := (true, "d83cd968ca41fdd1247f14b51e3dc746c1eeee355bcdaa974ef26936dc4b5b97"), looks := false }, kinds := [], alts := [], laidByText := true, laidKinds := [.data], laidTests := true, laidLooks := .later }
def EncFieldsUptoCardSaid : Prop := Claim7.holds Tryd.pinned (.plain (OpenSpec.upto encFieldsSpec)) encFieldsUptoCard
end Rows
end Go.Proofs.YtopkklkilbnheaaDoor
