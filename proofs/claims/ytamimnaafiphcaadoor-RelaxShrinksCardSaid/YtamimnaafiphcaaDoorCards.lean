/-
  DERIVED. GIVEN WITH THE SEED: THE CARDS: each row of YtamimnaafiphcaaDoorRows.lean that lists a variable, with what it lists TIED to the program's text (the seventh form; the later family's looks); each row that meets fmt, with fmt's text TOLD by the authors' own Lean function (tested against real Go, not proved from fmt's source: count such statements apart). THE CARD IS WHAT COUNTS. Prove the row's statement (the work); the ties are given (YtamimnaafiphcaaDoorTie.lean); close each card by the builder's one call (the guide's Derived/Test/ToyasCard.lean, 'card_holds'). Laid BY PROGRAM, IN A SANDBOX (cutbox-door.mjs). By AI agents, Wed Nov 11 2026. No macro, syntax, notation, axiom, sorry.
-/
import Derived.Test.YtamimnaafiphcaaDoorRows
import GoSem.ClaimSeven
namespace Go.Proofs.YtamimnaafiphcaaDoor
namespace Rows

/-- THE TIED CARD OF 'switchbacklaw17.RelaxAnswers'. -/
def relaxAnswersCard : Claim7 := { stood := { row := relaxAnswersRow, standIns := [], harness := (true, "0283dfed64fe0f804c3a5ea2a644a710e67d5a50b3aa7f20b75d2cb36c9a6d6d"), looks := true }, kinds := [], alts := [], laidByText := true, laidKinds := [.data], laidTests := true, laidLooks := .later }
def RelaxAnswersCardSaid : Prop := Claim7.holds Tryd.pinned (.plain (OpenSpec.ofChange relaxAnswersSpec)) relaxAnswersCard

/-- THE TIED CARD OF 'switchbacklaw17.RelaxRounds'. -/
def relaxRoundsCard : Claim7 := { stood := { row := relaxRoundsRow, standIns := [], harness := (true, "0283dfed64fe0f804c3a5ea2a644a710e67d5a50b3aa7f20b75d2cb36c9a6d6d"), looks := true }, kinds := [], alts := [], laidByText := true, laidKinds := [.data], laidTests := true, laidLooks := .later }
def RelaxRoundsCardSaid : Prop := Claim7.holds Tryd.pinned (.plain (OpenSpec.ofChange relaxRoundsSpec)) relaxRoundsCard

/-- THE TIED CARD OF 'switchbacklaw17.RelaxAll'. -/
def relaxAllCard : Claim7 := { stood := { row := relaxAllRow, standIns := [], harness := (true, "0283dfed64fe0f804c3a5ea2a644a710e67d5a50b3aa7f20b75d2cb36c9a6d6d"), looks := true }, kinds := [], alts := [], laidByText := true, laidKinds := [.data], laidTests := true, laidLooks := .later }
def RelaxAllCardSaid : Prop := Claim7.holds Tryd.pinned (.plain (OpenSpec.ofChange relaxAllSpec)) relaxAllCard

/-- THE TIED CARD OF 'switchbacklaw17.RelaxLabels'. -/
def relaxLabelsCard : Claim7 := { stood := { row := relaxLabelsRow, standIns := [], harness := (true, "0283dfed64fe0f804c3a5ea2a644a710e67d5a50b3aa7f20b75d2cb36c9a6d6d"), looks := true }, kinds := [], alts := [], laidByText := true, laidKinds := [.data], laidTests := true, laidLooks := .later }
def RelaxLabelsCardSaid : Prop := Claim7.holds Tryd.pinned (.plain (OpenSpec.ofChange relaxLabelsSpec)) relaxLabelsCard

/-- THE TIED CARD OF 'switchbacklaw17.RelaxBack'. -/
def relaxBackCard : Claim7 := { stood := { row := relaxBackRow, standIns := [], harness := (true, "0283dfed64fe0f804c3a5ea2a644a710e67d5a50b3aa7f20b75d2cb36c9a6d6d"), looks := true }, kinds := [], alts := [], laidByText := true, laidKinds := [.data], laidTests := true, laidLooks := .later }
def RelaxBackCardSaid : Prop := Claim7.holds Tryd.pinned (.plain (OpenSpec.ofChange relaxBackSpec)) relaxBackCard

/-- THE TIED CARD OF 'switchbacklaw17.RelaxLeast'. -/
def relaxLeastCard : Claim7 := { stood := { row := relaxLeastRow, standIns := [], harness := (true, "0283dfed64fe0f804c3a5ea2a644a710e67d5a50b3aa7f20b75d2cb36c9a6d6d"), looks := true }, kinds := [], alts := [], laidByText := true, laidKinds := [.data], laidTests := true, laidLooks := .later }
def RelaxLeastCardSaid : Prop := Claim7.holds Tryd.pinned (.plain (OpenSpec.ofChange relaxLeastSpec)) relaxLeastCard

/-- THE TIED CARD OF 'switchbacklaw17.RelaxShrinks'. -/
def relaxShrinksCard : Claim7 := { stood := { row := relaxShrinksRow, standIns := [], harness := (true, "0283dfed64fe0f804c3a5ea2a644a710e67d5a50b3aa7f20b75d2cb36c9a6d6d"), looks := true }, kinds := [], alts := [], laidByText := true, laidKinds := [.data], laidTests := true, laidLooks := .later }
def RelaxShrinksCardSaid : Prop := Claim7.holds Tryd.pinned (.plain (OpenSpec.ofChange relaxShrinksSpec)) relaxShrinksCard

/-- THE TIED CARD OF 'switchbacklaw18.EmuRuns'. -/
def emuRunsCard : Claim7 := { stood := { row := emuRunsRow, standIns := [], harness := (true, "0283dfed64fe0f804c3a5ea2a644a710e67d5a50b3aa7f20b75d2cb36c9a6d6d"), looks := true }, kinds := [], alts := [], laidByText := true, laidKinds := [.data], laidTests := true, laidLooks := .later }
def EmuRunsCardSaid : Prop := Claim7.holds Tryd.pinned (.plain (OpenSpec.ofChange emuRunsSpec)) emuRunsCard

/-- THE TIED CARD OF 'switchbacklaw18.EmuFuel'. -/
def emuFuelCard : Claim7 := { stood := { row := emuFuelRow, standIns := [], harness := (true, "0283dfed64fe0f804c3a5ea2a644a710e67d5a50b3aa7f20b75d2cb36c9a6d6d"), looks := true }, kinds := [], alts := [], laidByText := true, laidKinds := [.data], laidTests := true, laidLooks := .later }
def EmuFuelCardSaid : Prop := Claim7.holds Tryd.pinned (.plain (OpenSpec.ofChange emuFuelSpec)) emuFuelCard

/-- THE TIED CARD OF 'switchbacklaw18.EmuKinds'. -/
def emuKindsCard : Claim7 := { stood := { row := emuKindsRow, standIns := [], harness := (true, "0283dfed64fe0f804c3a5ea2a644a710e67d5a50b3aa7f20b75d2cb36c9a6d6d"), looks := true }, kinds := [], alts := [], laidByText := true, laidKinds := [.data], laidTests := true, laidLooks := .later }
def EmuKindsCardSaid : Prop := Claim7.holds Tryd.pinned (.plain (OpenSpec.ofChange emuKindsSpec)) emuKindsCard

/-- THE TIED CARD OF 'switchbacklaw18.EmuAny'. -/
def emuAnyCard : Claim7 := { stood := { row := emuAnyRow, standIns := [], harness := (true, "0283dfed64fe0f804c3a5ea2a644a710e67d5a50b3aa7f20b75d2cb36c9a6d6d"), looks := true }, kinds := [], alts := [], laidByText := true, laidKinds := [.data], laidTests := true, laidLooks := .later }
def EmuAnyCardSaid : Prop := Claim7.holds Tryd.pinned (.plain (OpenSpec.ofChange emuAnySpec)) emuAnyCard

/-- THE TIED CARD OF 'switchbacklaw18.EmuBehind'. -/
def emuBehindCard : Claim7 := { stood := { row := emuBehindRow, standIns := [], harness := (true, "0283dfed64fe0f804c3a5ea2a644a710e67d5a50b3aa7f20b75d2cb36c9a6d6d"), looks := true }, kinds := [], alts := [], laidByText := true, laidKinds := [.data], laidTests := true, laidLooks := .later }
def EmuBehindCardSaid : Prop := Claim7.holds Tryd.pinned (.plain (OpenSpec.ofChange emuBehindSpec)) emuBehindCard

/-- THE TIED CARD OF 'switchbacklaw18.EmuNoughts'. -/
def emuNoughtsCard : Claim7 := { stood := { row := emuNoughtsRow, standIns := [], harness := (true, "0283dfed64fe0f804c3a5ea2a644a710e67d5a50b3aa7f20b75d2cb36c9a6d6d"), looks := true }, kinds := [], alts := [], laidByText := true, laidKinds := [.data], laidTests := true, laidLooks := .later }
def EmuNoughtsCardSaid : Prop := Claim7.holds Tryd.pinned (.plain (OpenSpec.ofChange emuNoughtsSpec)) emuNoughtsCard

/-- THE TIED CARD OF 'switchbacklaw18.EmuRegisters'. -/
def emuRegistersCard : Claim7 := { stood := { row := emuRegistersRow, standIns := [], harness := (true, "0283dfed64fe0f804c3a5ea2a644a710e67d5a50b3aa7f20b75d2cb36c9a6d6d"), looks := true }, kinds := [], alts := [], laidByText := true, laidKinds := [.data], laidTests := true, laidLooks := .later }
def EmuRegistersCardSaid : Prop := Claim7.holds Tryd.pinned (.plain (OpenSpec.ofChange emuRegistersSpec)) emuRegistersCard

/-- THE TIED CARD OF 'switchbacklaw18.EmuIdle'. -/
def emuIdleCard : Claim7 := { stood := { row := emuIdleRow, standIns := [], harness := (true, "0283dfed64fe0f804c3a5ea2a644a710e67d5a50b3aa7f20b75d2cb36c9a6d6d"), looks := true }, kinds := [], alts := [], laidByText := true, laidKinds := [.data], laidTests := true, laidLooks := .later }
def EmuIdleCardSaid : Prop := Claim7.holds Tryd.pinned (.plain (OpenSpec.ofChange emuIdleSpec)) emuIdleCard

/-- THE SECOND FORM's CARD OF 'switchbacklaw17.RelaxAnswers'. -/
def relaxAnswersUptoCard : Claim7 := { stood := { row := relaxAnswersUptoRow, standIns := [], harness := (true, "0283dfed64fe0f804c3a5ea2a644a710e67d5a50b3aa7f20b75d2cb36c9a6d6d"), looks := true }, kinds := [], alts := [], laidByText := true, laidKinds := [.data], laidTests := true, laidLooks := .later }
def RelaxAnswersUptoCardSaid : Prop := Claim7.holds Tryd.pinned (.plain (OpenSpec.upto relaxAnswersSpec)) relaxAnswersUptoCard

/-- THE SECOND FORM's CARD OF 'switchbacklaw17.RelaxRounds'. -/
def relaxRoundsUptoCard : Claim7 := { stood := { row := relaxRoundsUptoRow, standIns := [], harness := (true, "0283dfed64fe0f804c3a5ea2a644a710e67d5a50b3aa7f20b75d2cb36c9a6d6d"), looks := true }, kinds := [], alts := [], laidByText := true, laidKinds := [.data], laidTests := true, laidLooks := .later }
def RelaxRoundsUptoCardSaid : Prop := Claim7.holds Tryd.pinned (.plain (OpenSpec.upto relaxRoundsSpec)) relaxRoundsUptoCard

/-- THE SECOND FORM's CARD OF 'switchbacklaw17.RelaxAll'. -/
def relaxAllUptoCard : Claim7 := { stood := { row := relaxAllUptoRow, standIns := [], harness := (true, "0283dfed64fe0f804c3a5ea2a644a710e67d5a50b3aa7f20b75d2cb36c9a6d6d"), looks := true }, kinds := [], alts := [], laidByText := true, laidKinds := [.data], laidTests := true, laidLooks := .later }
def RelaxAllUptoCardSaid : Prop := Claim7.holds Tryd.pinned (.plain (OpenSpec.upto relaxAllSpec)) relaxAllUptoCard

/-- THE SECOND FORM's CARD OF 'switchbacklaw17.RelaxLabels'. -/
def relaxLabelsUptoCard : Claim7 := { stood := { row := relaxLabelsUptoRow, standIns := [], harness := (true, "0283dfed64fe0f804c3a5ea2a644a710e67d5a50b3aa7f20b75d2cb36c9a6d6d"), looks := true }, kinds := [], alts := [], laidByText := true, laidKinds := [.data], laidTests := true, laidLooks := .later }
def RelaxLabelsUptoCardSaid : Prop := Claim7.holds Tryd.pinned (.plain (OpenSpec.upto relaxLabelsSpec)) relaxLabelsUptoCard

/-- THE SECOND FORM's CARD OF 'switchbacklaw17.RelaxBack'. -/
def relaxBackUptoCard : Claim7 := { stood := { row := relaxBackUptoRow, standIns := [], harness := (true, "0283dfed64fe0f804c3a5ea2a644a710e67d5a50b3aa7f20b75d2cb36c9a6d6d"), looks := true }, kinds := [], alts := [], laidByText := true, laidKinds := [.data], laidTests := true, laidLooks := .later }
def RelaxBackUptoCardSaid : Prop := Claim7.holds Tryd.pinned (.plain (OpenSpec.upto relaxBackSpec)) relaxBackUptoCard

/-- THE SECOND FORM's CARD OF 'switchbacklaw17.RelaxLeast'. -/
def relaxLeastUptoCard : Claim7 := { stood := { row := relaxLeastUptoRow, standIns := [], harness := (true, "0283dfed64fe0f804c3a5ea2a644a710e67d5a50b3aa7f20b75d2cb36c9a6d6d"), looks := true }, kinds := [], alts := [], laidByText := true, laidKinds := [.data], laidTests := true, laidLooks := .later }
def RelaxLeastUptoCardSaid : Prop := Claim7.holds Tryd.pinned (.plain (OpenSpec.upto relaxLeastSpec)) relaxLeastUptoCard

/-- THE SECOND FORM's CARD OF 'switchbacklaw17.RelaxShrinks'. -/
def relaxShrinksUptoCard : Claim7 := { stood := { row := relaxShrinksUptoRow, standIns := [], harness := (true, "0283dfed64fe0f804c3a5ea2a644a710e67d5a50b3aa7f20b75d2cb36c9a6d6d"), looks := true }, kinds := [], alts := [], laidByText := true, laidKinds := [.data], laidTests := true, laidLooks := .later }
def RelaxShrinksUptoCardSaid : Prop := Claim7.holds Tryd.pinned (.plain (OpenSpec.upto relaxShrinksSpec)) relaxShrinksUptoCard

/-- THE SECOND FORM's CARD OF 'switchbacklaw18.EmuRuns'. -/
def emuRunsUptoCard : Claim7 := { stood := { row := emuRunsUptoRow, standIns := [], harness := (true, "0283dfed64fe0f804c3a5ea2a644a710e67d5a50b3aa7f20b75d2cb36c9a6d6d"), looks := true }, kinds := [], alts := [], laidByText := true, laidKinds := [.data], laidTests := true, laidLooks := .later }
def EmuRunsUptoCardSaid : Prop := Claim7.holds Tryd.pinned (.plain (OpenSpec.upto emuRunsSpec)) emuRunsUptoCard

/-- THE SECOND FORM's CARD OF 'switchbacklaw18.EmuFuel'. -/
def emuFuelUptoCard : Claim7 := { stood := { row := emuFuelUptoRow, standIns := [], harness := (true, "0283dfed64fe0f804c3a5ea2a644a710e67d5a50b3aa7f20b75d2cb36c9a6d6d"), looks := true }, kinds := [], alts := [], laidByText := true, laidKinds := [.data], laidTests := true, laidLooks := .later }
def EmuFuelUptoCardSaid : Prop := Claim7.holds Tryd.pinned (.plain (OpenSpec.upto emuFuelSpec)) emuFuelUptoCard

/-- THE SECOND FORM's CARD OF 'switchbacklaw18.EmuKinds'. -/
def emuKindsUptoCard : Claim7 := { stood := { row := emuKindsUptoRow, standIns := [], harness := (true, "0283dfed64fe0f804c3a5ea2a644a710e67d5a50b3aa7f20b75d2cb36c9a6d6d"), looks := true }, kinds := [], alts := [], laidByText := true, laidKinds := [.data], laidTests := true, laidLooks := .later }
def EmuKindsUptoCardSaid : Prop := Claim7.holds Tryd.pinned (.plain (OpenSpec.upto emuKindsSpec)) emuKindsUptoCard

/-- THE SECOND FORM's CARD OF 'switchbacklaw18.EmuAny'. -/
def emuAnyUptoCard : Claim7 := { stood := { row := emuAnyUptoRow, standIns := [], harness := (true, "0283dfed64fe0f804c3a5ea2a644a710e67d5a50b3aa7f20b75d2cb36c9a6d6d"), looks := true }, kinds := [], alts := [], laidByText := true, laidKinds := [.data], laidTests := true, laidLooks := .later }
def EmuAnyUptoCardSaid : Prop := Claim7.holds Tryd.pinned (.plain (OpenSpec.upto emuAnySpec)) emuAnyUptoCard

/-- THE SECOND FORM's CARD OF 'switchbacklaw18.EmuBehind'. -/
def emuBehindUptoCard : Claim7 := { stood := { row := emuBehindUptoRow, standIns := [], harness := (true, "0283dfed64fe0f804c3a5ea2a644a710e67d5a50b3aa7f20b75d2cb36c9a6d6d"), looks := true }, kinds := [], alts := [], laidByText := true, laidKinds := [.data], laidTests := true, laidLooks := .later }
def EmuBehindUptoCardSaid : Prop := Claim7.holds Tryd.pinned (.plain (OpenSpec.upto emuBehindSpec)) emuBehindUptoCard

/-- THE SECOND FORM's CARD OF 'switchbacklaw18.EmuNoughts'. -/
def emuNoughtsUptoCard : Claim7 := { stood := { row := emuNoughtsUptoRow, standIns := [], harness := (true, "0283dfed64fe0f804c3a5ea2a644a710e67d5a50b3aa7f20b75d2cb36c9a6d6d"), looks := true }, kinds := [], alts := [], laidByText := true, laidKinds := [.data], laidTests := true, laidLooks := .later }
def EmuNoughtsUptoCardSaid : Prop := Claim7.holds Tryd.pinned (.plain (OpenSpec.upto emuNoughtsSpec)) emuNoughtsUptoCard

/-- THE SECOND FORM's CARD OF 'switchbacklaw18.EmuRegisters'. -/
def emuRegistersUptoCard : Claim7 := { stood := { row := emuRegistersUptoRow, standIns := [], harness := (true, "0283dfed64fe0f804c3a5ea2a644a710e67d5a50b3aa7f20b75d2cb36c9a6d6d"), looks := true }, kinds := [], alts := [], laidByText := true, laidKinds := [.data], laidTests := true, laidLooks := .later }
def EmuRegistersUptoCardSaid : Prop := Claim7.holds Tryd.pinned (.plain (OpenSpec.upto emuRegistersSpec)) emuRegistersUptoCard

/-- THE SECOND FORM's CARD OF 'switchbacklaw18.EmuIdle'. -/
def emuIdleUptoCard : Claim7 := { stood := { row := emuIdleUptoRow, standIns := [], harness := (true, "0283dfed64fe0f804c3a5ea2a644a710e67d5a50b3aa7f20b75d2cb36c9a6d6d"), looks := true }, kinds := [], alts := [], laidByText := true, laidKinds := [.data], laidTests := true, laidLooks := .later }
def EmuIdleUptoCardSaid : Prop := Claim7.holds Tryd.pinned (.plain (OpenSpec.upto emuIdleSpec)) emuIdleUptoCard
end Rows
end Go.Proofs.YtamimnaafiphcaaDoor
