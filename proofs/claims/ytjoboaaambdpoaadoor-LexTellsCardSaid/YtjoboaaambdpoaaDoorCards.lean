/-
  DERIVED. GIVEN WITH THE SEED: THE CARDS: each row of YtjoboaaambdpoaaDoorRows.lean that lists a variable, with what it lists TIED to the program's text (the seventh form; the later family's looks); each row that meets fmt, with fmt's text TOLD by the authors' own Lean function (tested against real Go, not proved from fmt's source: count such statements apart). THE CARD IS WHAT COUNTS. Prove the row's statement (the work); the ties are given (YtjoboaaambdpoaaDoorTie.lean); close each card by the builder's one call (the guide's Derived/Test/ToyasCard.lean, 'card_holds'). Laid BY PROGRAM, IN A SANDBOX (cutbox-door.mjs). By AI agents, Wed Nov 11 2026. No macro, syntax, notation, axiom, sorry.
-/
import Derived.Test.YtjoboaaambdpoaaDoorRows
import GoSem.ClaimSeven
namespace Go.Proofs.YtjoboaaambdpoaaDoor
namespace Rows

/-- THE TIED CARD OF 'switchbacklaw01.LexTells'. -/
def lexTellsCard : Claim7 := { stood := { row := lexTellsRow, standIns := [], harness := (true, "acc3413e5822e636b9b5d1c92dbf3554368d7207942e53701bfa04cf434d2877"), looks := true }, kinds := [], alts := [], laidByText := true, laidKinds := [.data, .data, .data, .sentinel, .sentinel], laidTests := true, laidLooks := .later }
def LexTellsCardSaid : Prop := Claim7.holds Tryd.pinned (.plain (OpenSpec.ofChange lexTellsSpec)) lexTellsCard

/-- THE TIED CARD OF 'switchbacklaw01.LexPlaces'. -/
def lexPlacesCard : Claim7 := { stood := { row := lexPlacesRow, standIns := [], harness := (true, "acc3413e5822e636b9b5d1c92dbf3554368d7207942e53701bfa04cf434d2877"), looks := true }, kinds := [], alts := [], laidByText := true, laidKinds := [.data, .data, .data, .sentinel, .sentinel], laidTests := true, laidLooks := .later }
def LexPlacesCardSaid : Prop := Claim7.holds Tryd.pinned (.plain (OpenSpec.ofChange lexPlacesSpec)) lexPlacesCard

/-- THE TIED CARD OF 'switchbacklaw01.LexParted'. -/
def lexPartedCard : Claim7 := { stood := { row := lexPartedRow, standIns := [], harness := (true, "acc3413e5822e636b9b5d1c92dbf3554368d7207942e53701bfa04cf434d2877"), looks := true }, kinds := [], alts := [], laidByText := true, laidKinds := [.data, .data, .data, .sentinel, .sentinel], laidTests := true, laidLooks := .later }
def LexPartedCardSaid : Prop := Claim7.holds Tryd.pinned (.plain (OpenSpec.ofChange lexPartedSpec)) lexPartedCard

/-- THE TIED CARD OF 'switchbacklaw01.LexBlanks'. -/
def lexBlanksCard : Claim7 := { stood := { row := lexBlanksRow, standIns := [], harness := (true, "acc3413e5822e636b9b5d1c92dbf3554368d7207942e53701bfa04cf434d2877"), looks := true }, kinds := [], alts := [], laidByText := true, laidKinds := [.data, .data, .data, .sentinel, .sentinel], laidTests := true, laidLooks := .later }
def LexBlanksCardSaid : Prop := Claim7.holds Tryd.pinned (.plain (OpenSpec.ofChange lexBlanksSpec)) lexBlanksCard

/-- THE TIED CARD OF 'switchbacklaw01.LexGlued'. -/
def lexGluedCard : Claim7 := { stood := { row := lexGluedRow, standIns := [], harness := (true, "acc3413e5822e636b9b5d1c92dbf3554368d7207942e53701bfa04cf434d2877"), looks := true }, kinds := [], alts := [], laidByText := true, laidKinds := [.data, .data, .data, .sentinel, .sentinel], laidTests := true, laidLooks := .later }
def LexGluedCardSaid : Prop := Claim7.holds Tryd.pinned (.plain (OpenSpec.ofChange lexGluedSpec)) lexGluedCard

/-- THE TIED CARD OF 'switchbacklaw01.LexCommented'. -/
def lexCommentedCard : Claim7 := { stood := { row := lexCommentedRow, standIns := [], harness := (true, "acc3413e5822e636b9b5d1c92dbf3554368d7207942e53701bfa04cf434d2877"), looks := true }, kinds := [], alts := [], laidByText := true, laidKinds := [.data, .data, .data, .sentinel, .sentinel], laidTests := true, laidLooks := .later }
def LexCommentedCardSaid : Prop := Claim7.holds Tryd.pinned (.plain (OpenSpec.ofChange lexCommentedSpec)) lexCommentedCard

/-- THE TIED CARD OF 'switchbacklaw01.LexNumbers'. -/
def lexNumbersCard : Claim7 := { stood := { row := lexNumbersRow, standIns := [], harness := (true, "acc3413e5822e636b9b5d1c92dbf3554368d7207942e53701bfa04cf434d2877"), looks := true }, kinds := [], alts := [], laidByText := true, laidKinds := [.data, .data, .data, .sentinel, .sentinel], laidTests := true, laidLooks := .later }
def LexNumbersCardSaid : Prop := Claim7.holds Tryd.pinned (.plain (OpenSpec.ofChange lexNumbersSpec)) lexNumbersCard

/-- THE TIED CARD OF 'switchbacklaw01.LexChars'. -/
def lexCharsCard : Claim7 := { stood := { row := lexCharsRow, standIns := [], harness := (true, "acc3413e5822e636b9b5d1c92dbf3554368d7207942e53701bfa04cf434d2877"), looks := true }, kinds := [], alts := [], laidByText := true, laidKinds := [.data, .data, .data, .sentinel, .sentinel], laidTests := true, laidLooks := .later }
def LexCharsCardSaid : Prop := Claim7.holds Tryd.pinned (.plain (OpenSpec.ofChange lexCharsSpec)) lexCharsCard

/-- THE SECOND FORM's CARD OF 'switchbacklaw01.LexTells'. -/
def lexTellsUptoCard : Claim7 := { stood := { row := lexTellsUptoRow, standIns := [], harness := (true, "acc3413e5822e636b9b5d1c92dbf3554368d7207942e53701bfa04cf434d2877"), looks := true }, kinds := [], alts := [], laidByText := true, laidKinds := [.data, .data, .data, .sentinel, .sentinel], laidTests := true, laidLooks := .later }
def LexTellsUptoCardSaid : Prop := Claim7.holds Tryd.pinned (.plain (OpenSpec.upto lexTellsSpec)) lexTellsUptoCard

/-- THE SECOND FORM's CARD OF 'switchbacklaw01.LexPlaces'. -/
def lexPlacesUptoCard : Claim7 := { stood := { row := lexPlacesUptoRow, standIns := [], harness := (true, "acc3413e5822e636b9b5d1c92dbf3554368d7207942e53701bfa04cf434d2877"), looks := true }, kinds := [], alts := [], laidByText := true, laidKinds := [.data, .data, .data, .sentinel, .sentinel], laidTests := true, laidLooks := .later }
def LexPlacesUptoCardSaid : Prop := Claim7.holds Tryd.pinned (.plain (OpenSpec.upto lexPlacesSpec)) lexPlacesUptoCard

/-- THE SECOND FORM's CARD OF 'switchbacklaw01.LexParted'. -/
def lexPartedUptoCard : Claim7 := { stood := { row := lexPartedUptoRow, standIns := [], harness := (true, "acc3413e5822e636b9b5d1c92dbf3554368d7207942e53701bfa04cf434d2877"), looks := true }, kinds := [], alts := [], laidByText := true, laidKinds := [.data, .data, .data, .sentinel, .sentinel], laidTests := true, laidLooks := .later }
def LexPartedUptoCardSaid : Prop := Claim7.holds Tryd.pinned (.plain (OpenSpec.upto lexPartedSpec)) lexPartedUptoCard

/-- THE SECOND FORM's CARD OF 'switchbacklaw01.LexBlanks'. -/
def lexBlanksUptoCard : Claim7 := { stood := { row := lexBlanksUptoRow, standIns := [], harness := (true, "acc3413e5822e636b9b5d1c92dbf3554368d7207942e53701bfa04cf434d2877"), looks := true }, kinds := [], alts := [], laidByText := true, laidKinds := [.data, .data, .data, .sentinel, .sentinel], laidTests := true, laidLooks := .later }
def LexBlanksUptoCardSaid : Prop := Claim7.holds Tryd.pinned (.plain (OpenSpec.upto lexBlanksSpec)) lexBlanksUptoCard

/-- THE SECOND FORM's CARD OF 'switchbacklaw01.LexGlued'. -/
def lexGluedUptoCard : Claim7 := { stood := { row := lexGluedUptoRow, standIns := [], harness := (true, "acc3413e5822e636b9b5d1c92dbf3554368d7207942e53701bfa04cf434d2877"), looks := true }, kinds := [], alts := [], laidByText := true, laidKinds := [.data, .data, .data, .sentinel, .sentinel], laidTests := true, laidLooks := .later }
def LexGluedUptoCardSaid : Prop := Claim7.holds Tryd.pinned (.plain (OpenSpec.upto lexGluedSpec)) lexGluedUptoCard

/-- THE SECOND FORM's CARD OF 'switchbacklaw01.LexCommented'. -/
def lexCommentedUptoCard : Claim7 := { stood := { row := lexCommentedUptoRow, standIns := [], harness := (true, "acc3413e5822e636b9b5d1c92dbf3554368d7207942e53701bfa04cf434d2877"), looks := true }, kinds := [], alts := [], laidByText := true, laidKinds := [.data, .data, .data, .sentinel, .sentinel], laidTests := true, laidLooks := .later }
def LexCommentedUptoCardSaid : Prop := Claim7.holds Tryd.pinned (.plain (OpenSpec.upto lexCommentedSpec)) lexCommentedUptoCard

/-- THE SECOND FORM's CARD OF 'switchbacklaw01.LexNumbers'. -/
def lexNumbersUptoCard : Claim7 := { stood := { row := lexNumbersUptoRow, standIns := [], harness := (true, "acc3413e5822e636b9b5d1c92dbf3554368d7207942e53701bfa04cf434d2877"), looks := true }, kinds := [], alts := [], laidByText := true, laidKinds := [.data, .data, .data, .sentinel, .sentinel], laidTests := true, laidLooks := .later }
def LexNumbersUptoCardSaid : Prop := Claim7.holds Tryd.pinned (.plain (OpenSpec.upto lexNumbersSpec)) lexNumbersUptoCard

/-- THE SECOND FORM's CARD OF 'switchbacklaw01.LexChars'. -/
def lexCharsUptoCard : Claim7 := { stood := { row := lexCharsUptoRow, standIns := [], harness := (true, "acc3413e5822e636b9b5d1c92dbf3554368d7207942e53701bfa04cf434d2877"), looks := true }, kinds := [], alts := [], laidByText := true, laidKinds := [.data, .data, .data, .sentinel, .sentinel], laidTests := true, laidLooks := .later }
def LexCharsUptoCardSaid : Prop := Claim7.holds Tryd.pinned (.plain (OpenSpec.upto lexCharsSpec)) lexCharsUptoCard
end Rows
end Go.Proofs.YtjoboaaambdpoaaDoor
