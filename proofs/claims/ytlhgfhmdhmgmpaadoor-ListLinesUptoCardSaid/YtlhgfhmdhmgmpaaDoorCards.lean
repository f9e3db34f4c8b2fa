/-
  DERIVED. GIVEN WITH THE SEED: THE CARDS: each row of YtlhgfhmdhmgmpaaDoorRows.lean that lists a variable, with what it lists TIED to the program's text (the seventh form; the later family's looks); each row that meets fmt, with fmt's text TOLD by the authors' own Lean function (tested against real Go, not proved from fmt's source: count such statements apart). THE CARD IS WHAT COUNTS. Prove the row's statement (the work); the ties are given (YtlhgfhmdhmgmpaaDoorTie.lean); close each card by the builder's one call (the guide's Derived/Test/ToyasCard.lean, 'card_holds'). Laid BY PROGRAM, IN A SANDBOX (cutbox-door.mjs). By AI agents, Wed Nov 11 2026. No macro, syntax, notation, axiom, sorry.
-/
import Derived.Test.YtlhgfhmdhmgmpaaDoorRows
import GoSem.ClaimSeven
namespace Go.Proofs.YtlhgfhmdhmgmpaaDoor
namespace Rows

/-- THE TIED CARD OF 'switchbacklaw22.ListBack'. -/
def listBackCard : Claim7 := { stood := { row := listBackRow, standIns := [], harness := (true, "7873ab7bb7390902b49905b615b5acd7a0b10fb4c88c9bf74975d7a78d42335b"), looks := true }, kinds := [], alts := [], laidByText := true, laidKinds := [.data, .data, .data, .data, .sentinel, .sentinel, .listed, .data], laidTests := true, laidLooks := .later }
def ListBackCardSaid : Prop := Claim7.holds Tryd.pinned (.plain (OpenSpec.ofChange listBackSpec)) listBackCard

/-- THE TIED CARD OF 'switchbacklaw22.ListAgain'. -/
def listAgainCard : Claim7 := { stood := { row := listAgainRow, standIns := [], harness := (true, "7873ab7bb7390902b49905b615b5acd7a0b10fb4c88c9bf74975d7a78d42335b"), looks := true }, kinds := [], alts := [], laidByText := true, laidKinds := [.data, .data, .data, .data, .sentinel, .sentinel, .listed, .data], laidTests := true, laidLooks := .later }
def ListAgainCardSaid : Prop := Claim7.holds Tryd.pinned (.plain (OpenSpec.ofChange listAgainSpec)) listAgainCard

/-- THE TIED CARD OF 'switchbacklaw22.ListBlanks'. -/
def listBlanksCard : Claim7 := { stood := { row := listBlanksRow, standIns := [], harness := (true, "7873ab7bb7390902b49905b615b5acd7a0b10fb4c88c9bf74975d7a78d42335b"), looks := true }, kinds := [], alts := [], laidByText := true, laidKinds := [.data, .data, .data, .data, .sentinel, .sentinel, .listed, .data], laidTests := true, laidLooks := .later }
def ListBlanksCardSaid : Prop := Claim7.holds Tryd.pinned (.plain (OpenSpec.ofChange listBlanksSpec)) listBlanksCard

/-- THE TIED CARD OF 'switchbacklaw22.ListLines'. -/
def listLinesCard : Claim7 := { stood := { row := listLinesRow, standIns := [], harness := (true, "7873ab7bb7390902b49905b615b5acd7a0b10fb4c88c9bf74975d7a78d42335b"), looks := true }, kinds := [], alts := [], laidByText := true, laidKinds := [.data, .data, .data, .data, .sentinel, .sentinel, .listed, .data], laidTests := true, laidLooks := .later }
def ListLinesCardSaid : Prop := Claim7.holds Tryd.pinned (.plain (OpenSpec.ofChange listLinesSpec)) listLinesCard

/-- THE TIED CARD OF 'switchbacklaw22.ListAlone'. -/
def listAloneCard : Claim7 := { stood := { row := listAloneRow, standIns := [], harness := (true, "7873ab7bb7390902b49905b615b5acd7a0b10fb4c88c9bf74975d7a78d42335b"), looks := true }, kinds := [], alts := [], laidByText := true, laidKinds := [.data, .data, .data, .data, .sentinel, .sentinel, .listed, .data], laidTests := true, laidLooks := .later }
def ListAloneCardSaid : Prop := Claim7.holds Tryd.pinned (.plain (OpenSpec.ofChange listAloneSpec)) listAloneCard

/-- THE SECOND FORM's CARD OF 'switchbacklaw22.ListBack'. -/
def listBackUptoCard : Claim7 := { stood := { row := listBackUptoRow, standIns := [], harness := (true, "7873ab7bb7390902b49905b615b5acd7a0b10fb4c88c9bf74975d7a78d42335b"), looks := true }, kinds := [], alts := [], laidByText := true, laidKinds := [.data, .data, .data, .data, .sentinel, .sentinel, .listed, .data], laidTests := true, laidLooks := .later }
def ListBackUptoCardSaid : Prop := Claim7.holds Tryd.pinned (.plain (OpenSpec.upto listBackSpec)) listBackUptoCard

/-- THE SECOND FORM's CARD OF 'switchbacklaw22.ListAgain'. -/
def listAgainUptoCard : Claim7 := { stood := { row := listAgainUptoRow, standIns := [], harness := (true, "7873ab7bb7390902b49905b615b5acd7a0b10fb4c88c9bf74975d7a78d42335b"), looks := true }, kinds := [], alts := [], laidByText := true, laidKinds := [.data, .data, .data, .data, .sentinel, .sentinel, .listed, .data], laidTests := true, laidLooks := .later }
def ListAgainUptoCardSaid : Prop := Claim7.holds Tryd.pinned (.plain (OpenSpec.upto listAgainSpec)) listAgainUptoCard

/-- THE SECOND FORM's CARD OF 'switchbacklaw22.ListBlanks'. -/
def listBlanksUptoCard : Claim7 := { stood := { row := listBlanksUptoRow, standIns := [], harness := (true, "7873ab7bb7390902b49905b615b5acd7a0b10fb4c88c9bf74975d7a78d42335b"), looks := true }, kinds := [], alts := [], laidByText := true, laidKinds := [.data, .data, .data, .data, .sentinel, .sentinel, .listed, .data], laidTests := true, laidLooks := .later }
def ListBlanksUptoCardSaid : Prop := Claim7.holds Tryd.pinned (.plain (OpenSpec.upto listBlanksSpec)) listBlanksUptoCard

/-- THE SECOND FORM's CARD OF 'switchbacklaw22.ListLines'. -/
def listLinesUptoCard : Claim7 := { stood := { row := listLinesUptoRow, standIns := [], harness := (true, "7873ab7bb7390902b49905b615b5acd7a0b10fb4c88c9bf74975d7a78d42335b"), looks := true }, kinds := [], alts := [], laidByText := true, laidKinds := [.data, .data, .data, .data, .sentinel, .sentinel, .listed, .data], laidTests := true, laidLooks := .later }
def ListLinesUptoCardSaid : Prop := Claim7.holds Tryd.pinned (.plain (OpenSpec.upto listLinesSpec)) listLinesUptoCard

/-- THE SECOND FORM's CARD OF 'switchbacklaw22.ListAlone'. -/
def listAloneUptoCard : Claim7 := { stood := { row := listAloneUptoRow, standIns := [], harness := (true, "7873ab7bb7390902b49905b615b5acd7a0b10fb4c88c9bf74975d7a78d42335b"), looks := true }, kinds := [], alts := [], laidByText := true, laidKinds := [.data, .data, .data, .data, .sentinel, .sentinel, .listed, .data], laidTests := true, laidLooks := .later }
def ListAloneUptoCardSaid : Prop := Claim7.holds Tryd.pinned (.plain (OpenSpec.upto listAloneSpec)) listAloneUptoCard
end Rows
end Go.Proofs.YtlhgfhmdhmgmpaaDoor
