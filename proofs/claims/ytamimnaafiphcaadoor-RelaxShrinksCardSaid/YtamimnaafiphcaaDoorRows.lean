/-
  NARROWER THAN 'FOR EVERY INPUT', by the rows' own cells (each row's printed sentence says how): RelaxAnswers: laid · RelaxRounds: laid · RelaxAll: laid · RelaxLabels: laid · RelaxBack: laid · RelaxLeast: laid · RelaxShrinks: laid · EmuRuns: laid · EmuFuel: laid · EmuKinds: laid · EmuAny: laid · EmuBehind: laid · EmuNoughts: laid · EmuRegisters: laid · EmuIdle: laid.
  DERIVED. THE GIVEN ROWS OF THIS SEAT. 15 by the template 'for every input the law returns true; each argument reads behind the call as it read before'; 0 by the template 'total and deterministic' (their statements: YtamimnaafiphcaaDoorTotals.lean).
  GIVEN WITH THE SEED: the statements are not yours to turn. If you find one false, say at which input.
  Laid BY PROGRAM, IN A SANDBOX (cutbox-rows.mjs): the forced cells as the released guide's own fill.sh prints them over the translation 592c91a207665b34… (all of the seat's roots in one cut). By AI agents, Wed Nov 11 2026. No macro, syntax, notation, axiom, sorry.
-/
import Derived.Test.YtamimnaafiphcaaDoorChecked
import GoSem.Claim
import GoSem.ClaimJoined
import GoSem.ClaimMapViews
import Derived.JoinedTies
import Derived.KernelRfl
namespace Go.Proofs.YtamimnaafiphcaaDoor
/- THE CELL 'sum', in the pinned program and in every row, IS THE sha256 OF THE DUMP (.gsa) THAT YtamimnaafiphcaaDoorProg.lean LOADS. Nothing in Lean hashes anything: it is a label: what it is worth is what the hold of that sum in a sandbox is worth. -/
noncomputable def Tryd.pinned : Pinned := { name := "ytamimnaafiphcaadoor", sum := "592c91a207665b345f5deb311f4e5c17b8db801bb1a34625b25f847b21f3bff5", checked := Tryd.checked }
namespace Rows
def none {H : Type} : Left H := { results := [], args := [] }

/- WHAT THE LISTED PACKAGE-LEVEL VARIABLES READ AS WHEN THE CALL BEGINS. Each datum BY PROGRAM (the guide's laid-datum.mjs) off the statement by which the dump's own 'gosem.cut.vars' lays the variable. In a bare row this is a premise. The card (YtamimnaafiphcaaDoorCards.lean) ties it to the program's text. -/
def laid_switchback_enc_forms {H : Type} : DataW H := .agg [.lit (.int .u8 9), .lit (.int .u8 1), .lit (.int .u8 2), .lit (.int .u8 3), .lit (.int .u8 4), .lit (.int .u8 5), .lit (.int .u8 5), .lit (.int .u8 5), .lit (.int .u8 5), .lit (.int .u8 5), .lit (.int .u8 5), .lit (.int .u8 5), .lit (.int .u8 5), .lit (.int .u8 5), .lit (.int .u8 5), .lit (.int .u8 5), .lit (.int .u8 5), .lit (.int .u8 5), .lit (.int .u8 5), .lit (.int .u8 5), .lit (.int .u8 5), .lit (.int .u8 5), .lit (.int .u8 5), .lit (.int .u8 5), .lit (.int .u8 3), .lit (.int .u8 3), .lit (.int .u8 3), .lit (.int .u8 4), .lit (.int .u8 4), .lit (.int .u8 3), .lit (.int .u8 6), .lit (.int .u8 6), .lit (.int .u8 6), .lit (.int .u8 6), .lit (.int .u8 6), .lit (.int .u8 6), .lit (.int .u8 6), .lit (.int .u8 6), .lit (.int .u8 6), .lit (.int .u8 6), .lit (.int .u8 7), .lit (.int .u8 0), .lit (.int .u8 2), .lit (.int .u8 0), .lit (.int .u8 0), .lit (.int .u8 2), .lit (.int .u8 2), .lit (.int .u8 2), .lit (.int .u8 8)]

/-- 'switchbacklaw17.RelaxAnswers': WHATEVER THE INPUT: true; the input reads as it did. -/
def relaxAnswersSpec : ChangeSpec := { name := "relaxAnswers", fn := fun _ => fun
  | [d] => { results := [.lit (.bool true)], args := [d] }
  | _ => none }
def relaxAnswersRow : OpenClaim := { program := "ytamimnaafiphcaadoor", sum := "592c91a207665b345f5deb311f4e5c17b8db801bb1a34625b25f847b21f3bff5", func := "switchback/switchbacklaw17.RelaxAnswers", spec := "relaxAnswers", named := ["switchback/enc.forms"], apart := false, laid := [("switchback/enc.forms", laid_switchback_enc_forms)] }
def RelaxAnswersSaid : Prop := relaxAnswersRow.holds Tryd.pinned (OpenSpec.ofChange relaxAnswersSpec)

/-- ITS FALSE NEIGHBOUR: 'it returns false'. Refute it at one input. -/
def relaxAnswersWrong : ChangeSpec := { name := "relaxAnswers", fn := fun _ => fun
  | [d] => { results := [.lit (.bool false)], args := [d] }
  | _ => none }
def RelaxAnswersWrongFalsely : Prop := relaxAnswersRow.holds Tryd.pinned (OpenSpec.ofChange relaxAnswersWrong)

/-- 'switchbacklaw17.RelaxRounds': WHATEVER THE INPUT: true; the input reads as it did. -/
def relaxRoundsSpec : ChangeSpec := { name := "relaxRounds", fn := fun _ => fun
  | [d] => { results := [.lit (.bool true)], args := [d] }
  | _ => none }
def relaxRoundsRow : OpenClaim := { program := "ytamimnaafiphcaadoor", sum := "592c91a207665b345f5deb311f4e5c17b8db801bb1a34625b25f847b21f3bff5", func := "switchback/switchbacklaw17.RelaxRounds", spec := "relaxRounds", named := ["switchback/enc.forms"], apart := false, laid := [("switchback/enc.forms", laid_switchback_enc_forms)] }
def RelaxRoundsSaid : Prop := relaxRoundsRow.holds Tryd.pinned (OpenSpec.ofChange relaxRoundsSpec)

/-- ITS FALSE NEIGHBOUR: 'it returns false'. Refute it at one input. -/
def relaxRoundsWrong : ChangeSpec := { name := "relaxRounds", fn := fun _ => fun
  | [d] => { results := [.lit (.bool false)], args := [d] }
  | _ => none }
def RelaxRoundsWrongFalsely : Prop := relaxRoundsRow.holds Tryd.pinned (OpenSpec.ofChange relaxRoundsWrong)

/-- 'switchbacklaw17.RelaxAll': WHATEVER THE INPUT: true; the input reads as it did. -/
def relaxAllSpec : ChangeSpec := { name := "relaxAll", fn := fun _ => fun
  | [d1, d2] => { results := [.lit (.bool true)], args := [d1, d2] }
  | _ => none }
def relaxAllRow : OpenClaim := { program := "ytamimnaafiphcaadoor", sum := "592c91a207665b345f5deb311f4e5c17b8db801bb1a34625b25f847b21f3bff5", func := "switchback/switchbacklaw17.RelaxAll", spec := "relaxAll", named := ["switchback/enc.forms"], apart := false, laid := [("switchback/enc.forms", laid_switchback_enc_forms)] }
def RelaxAllSaid : Prop := relaxAllRow.holds Tryd.pinned (OpenSpec.ofChange relaxAllSpec)

/-- ITS FALSE NEIGHBOUR: 'it returns false'. Refute it at one input. -/
def relaxAllWrong : ChangeSpec := { name := "relaxAll", fn := fun _ => fun
  | [d1, d2] => { results := [.lit (.bool false)], args := [d1, d2] }
  | _ => none }
def RelaxAllWrongFalsely : Prop := relaxAllRow.holds Tryd.pinned (OpenSpec.ofChange relaxAllWrong)

/-- 'switchbacklaw17.RelaxLabels': WHATEVER THE INPUT: true; the input reads as it did. -/
def relaxLabelsSpec : ChangeSpec := { name := "relaxLabels", fn := fun _ => fun
  | [d1, d2] => { results := [.lit (.bool true)], args := [d1, d2] }
  | _ => none }
def relaxLabelsRow : OpenClaim := { program := "ytamimnaafiphcaadoor", sum := "592c91a207665b345f5deb311f4e5c17b8db801bb1a34625b25f847b21f3bff5", func := "switchback/switchbacklaw17.RelaxLabels", spec := "relaxLabels", named := ["switchback/enc.forms"], apart := false, laid := [("switchback/enc.forms", laid_switchback_enc_forms)] }
def RelaxLabelsSaid : Prop := relaxLabelsRow.holds Tryd.pinned (OpenSpec.ofChange relaxLabelsSpec)

/-- ITS FALSE NEIGHBOUR: 'it returns false'. Refute it at one input. -/
def relaxLabelsWrong : ChangeSpec := { name := "relaxLabels", fn := fun _ => fun
  | [d1, d2] => { results := [.lit (.bool false)], args := [d1, d2] }
  | _ => none }
def RelaxLabelsWrongFalsely : Prop := relaxLabelsRow.holds Tryd.pinned (OpenSpec.ofChange relaxLabelsWrong)

/-- 'switchbacklaw17.RelaxBack': WHATEVER THE INPUT: true; the input reads as it did. -/
def relaxBackSpec : ChangeSpec := { name := "relaxBack", fn := fun _ => fun
  | [d] => { results := [.lit (.bool true)], args := [d] }
  | _ => none }
def relaxBackRow : OpenClaim := { program := "ytamimnaafiphcaadoor", sum := "592c91a207665b345f5deb311f4e5c17b8db801bb1a34625b25f847b21f3bff5", func := "switchback/switchbacklaw17.RelaxBack", spec := "relaxBack", named := ["switchback/enc.forms"], apart := false, laid := [("switchback/enc.forms", laid_switchback_enc_forms)] }
def RelaxBackSaid : Prop := relaxBackRow.holds Tryd.pinned (OpenSpec.ofChange relaxBackSpec)

/-- ITS FALSE NEIGHBOUR: 'it returns false'. Refute it at one input. -/
def relaxBackWrong : ChangeSpec := { name := "relaxBack", fn := fun _ => fun
  | [d] => { results := [.lit (.bool false)], args := [d] }
  | _ => none }
def RelaxBackWrongFalsely : Prop := relaxBackRow.holds Tryd.pinned (OpenSpec.ofChange relaxBackWrong)

/-- 'switchbacklaw17.RelaxLeast': WHATEVER THE INPUT: true; the input reads as it did. -/
def relaxLeastSpec : ChangeSpec := { name := "relaxLeast", fn := fun _ => fun
  | [d1, d2] => { results := [.lit (.bool true)], args := [d1, d2] }
  | _ => none }
def relaxLeastRow : OpenClaim := { program := "ytamimnaafiphcaadoor", sum := "592c91a207665b345f5deb311f4e5c17b8db801bb1a34625b25f847b21f3bff5", func := "switchback/switchbacklaw17.RelaxLeast", spec := "relaxLeast", named := ["switchback/enc.forms"], apart := false, laid := [("switchback/enc.forms", laid_switchback_enc_forms)] }
def RelaxLeastSaid : Prop := relaxLeastRow.holds Tryd.pinned (OpenSpec.ofChange relaxLeastSpec)

/-- ITS FALSE NEIGHBOUR: 'it returns false'. Refute it at one input. -/
def relaxLeastWrong : ChangeSpec := { name := "relaxLeast", fn := fun _ => fun
  | [d1, d2] => { results := [.lit (.bool false)], args := [d1, d2] }
  | _ => none }
def RelaxLeastWrongFalsely : Prop := relaxLeastRow.holds Tryd.pinned (OpenSpec.ofChange relaxLeastWrong)

/-- 'switchbacklaw17.RelaxShrinks': WHATEVER THE INPUT: true; the input reads as it did. -/
def relaxShrinksSpec : ChangeSpec := { name := "relaxShrinks", fn := fun _ => fun
  | [d1, d2] => { results := [.lit (.bool true)], args := [d1, d2] }
  | _ => none }
def relaxShrinksRow : OpenClaim := { program := "ytamimnaafiphcaadoor", sum := "592c91a207665b345f5deb311f4e5c17b8db801bb1a34625b25f847b21f3bff5", func := "switchback/switchbacklaw17.RelaxShrinks", spec := "relaxShrinks", named := ["switchback/enc.forms"], apart := false, laid := [("switchback/enc.forms", laid_switchback_enc_forms)] }
def RelaxShrinksSaid : Prop := relaxShrinksRow.holds Tryd.pinned (OpenSpec.ofChange relaxShrinksSpec)

/-- ITS FALSE NEIGHBOUR: 'it returns false'. Refute it at one input. -/
def relaxShrinksWrong : ChangeSpec := { name := "relaxShrinks", fn := fun _ => fun
  | [d1, d2] => { results := [.lit (.bool false)], args := [d1, d2] }
  | _ => none }
def RelaxShrinksWrongFalsely : Prop := relaxShrinksRow.holds Tryd.pinned (OpenSpec.ofChange relaxShrinksWrong)

/-- 'switchbacklaw18.EmuRuns': WHATEVER THE INPUT: true; the input reads as it did. -/
def emuRunsSpec : ChangeSpec := { name := "emuRuns", fn := fun _ => fun
  | [d1, d2, d3] => { results := [.lit (.bool true)], args := [d1, d2, d3] }
  | _ => none }
def emuRunsRow : OpenClaim := { program := "ytamimnaafiphcaadoor", sum := "592c91a207665b345f5deb311f4e5c17b8db801bb1a34625b25f847b21f3bff5", func := "switchback/switchbacklaw18.EmuRuns", spec := "emuRuns", unfollowed := true, recurses := true, named := ["switchback/enc.forms"], apart := false, laid := [("switchback/enc.forms", laid_switchback_enc_forms)] }
def EmuRunsSaid : Prop := emuRunsRow.holds Tryd.pinned (OpenSpec.ofChange emuRunsSpec)

/-- ITS FALSE NEIGHBOUR: 'it returns false'. Refute it at one input. -/
def emuRunsWrong : ChangeSpec := { name := "emuRuns", fn := fun _ => fun
  | [d1, d2, d3] => { results := [.lit (.bool false)], args := [d1, d2, d3] }
  | _ => none }
def EmuRunsWrongFalsely : Prop := emuRunsRow.holds Tryd.pinned (OpenSpec.ofChange emuRunsWrong)

/-- 'switchbacklaw18.EmuFuel': WHATEVER THE INPUT: true; the input reads as it did. -/
def emuFuelSpec : ChangeSpec := { name := "emuFuel", fn := fun _ => fun
  | [d1, d2, d3, d4] => { results := [.lit (.bool true)], args := [d1, d2, d3, d4] }
  | _ => none }
def emuFuelRow : OpenClaim := { program := "ytamimnaafiphcaadoor", sum := "592c91a207665b345f5deb311f4e5c17b8db801bb1a34625b25f847b21f3bff5", func := "switchback/switchbacklaw18.EmuFuel", spec := "emuFuel", unfollowed := true, recurses := true, named := ["switchback/enc.forms"], apart := false, laid := [("switchback/enc.forms", laid_switchback_enc_forms)] }
def EmuFuelSaid : Prop := emuFuelRow.holds Tryd.pinned (OpenSpec.ofChange emuFuelSpec)

/-- ITS FALSE NEIGHBOUR: 'it returns false'. Refute it at one input. -/
def emuFuelWrong : ChangeSpec := { name := "emuFuel", fn := fun _ => fun
  | [d1, d2, d3, d4] => { results := [.lit (.bool false)], args := [d1, d2, d3, d4] }
  | _ => none }
def EmuFuelWrongFalsely : Prop := emuFuelRow.holds Tryd.pinned (OpenSpec.ofChange emuFuelWrong)

/-- 'switchbacklaw18.EmuKinds': WHATEVER THE INPUT: true; the input reads as it did. -/
def emuKindsSpec : ChangeSpec := { name := "emuKinds", fn := fun _ => fun
  | [d1, d2, d3] => { results := [.lit (.bool true)], args := [d1, d2, d3] }
  | _ => none }
def emuKindsRow : OpenClaim := { program := "ytamimnaafiphcaadoor", sum := "592c91a207665b345f5deb311f4e5c17b8db801bb1a34625b25f847b21f3bff5", func := "switchback/switchbacklaw18.EmuKinds", spec := "emuKinds", unfollowed := true, recurses := true, named := ["switchback/enc.forms"], apart := false, laid := [("switchback/enc.forms", laid_switchback_enc_forms)] }
def EmuKindsSaid : Prop := emuKindsRow.holds Tryd.pinned (OpenSpec.ofChange emuKindsSpec)

/-- ITS FALSE NEIGHBOUR: 'it returns false'. Refute it at one input. -/
def emuKindsWrong : ChangeSpec := { name := "emuKinds", fn := fun _ => fun
  | [d1, d2, d3] => { results := [.lit (.bool false)], args := [d1, d2, d3] }
  | _ => none }
def EmuKindsWrongFalsely : Prop := emuKindsRow.holds Tryd.pinned (OpenSpec.ofChange emuKindsWrong)

/-- 'switchbacklaw18.EmuAny': WHATEVER THE INPUT: true; the input reads as it did. -/
def emuAnySpec : ChangeSpec := { name := "emuAny", fn := fun _ => fun
  | [d1, d2, d3, d4, d5] => { results := [.lit (.bool true)], args := [d1, d2, d3, d4, d5] }
  | _ => none }
def emuAnyRow : OpenClaim := { program := "ytamimnaafiphcaadoor", sum := "592c91a207665b345f5deb311f4e5c17b8db801bb1a34625b25f847b21f3bff5", func := "switchback/switchbacklaw18.EmuAny", spec := "emuAny", unfollowed := true, recurses := true, named := ["switchback/enc.forms"], apart := false, laid := [("switchback/enc.forms", laid_switchback_enc_forms)] }
def EmuAnySaid : Prop := emuAnyRow.holds Tryd.pinned (OpenSpec.ofChange emuAnySpec)

/-- ITS FALSE NEIGHBOUR: 'it returns false'. Refute it at one input. -/
def emuAnyWrong : ChangeSpec := { name := "emuAny", fn := fun _ => fun
  | [d1, d2, d3, d4, d5] => { results := [.lit (.bool false)], args := [d1, d2, d3, d4, d5] }
  | _ => none }
def EmuAnyWrongFalsely : Prop := emuAnyRow.holds Tryd.pinned (OpenSpec.ofChange emuAnyWrong)

/-- 'switchbacklaw18.EmuBehind': WHATEVER THE INPUT: true; the input reads as it did. -/
def emuBehindSpec : ChangeSpec := { name := "emuBehind", fn := fun _ => fun
  | [d1, d2, d3] => { results := [.lit (.bool true)], args := [d1, d2, d3] }
  | _ => none }
def emuBehindRow : OpenClaim := { program := "ytamimnaafiphcaadoor", sum := "592c91a207665b345f5deb311f4e5c17b8db801bb1a34625b25f847b21f3bff5", func := "switchback/switchbacklaw18.EmuBehind", spec := "emuBehind", unfollowed := true, recurses := true, named := ["switchback/enc.forms"], apart := false, laid := [("switchback/enc.forms", laid_switchback_enc_forms)] }
def EmuBehindSaid : Prop := emuBehindRow.holds Tryd.pinned (OpenSpec.ofChange emuBehindSpec)

/-- ITS FALSE NEIGHBOUR: 'it returns false'. Refute it at one input. -/
def emuBehindWrong : ChangeSpec := { name := "emuBehind", fn := fun _ => fun
  | [d1, d2, d3] => { results := [.lit (.bool false)], args := [d1, d2, d3] }
  | _ => none }
def EmuBehindWrongFalsely : Prop := emuBehindRow.holds Tryd.pinned (OpenSpec.ofChange emuBehindWrong)

/-- 'switchbacklaw18.EmuNoughts': WHATEVER THE INPUT: true; the input reads as it did. -/
def emuNoughtsSpec : ChangeSpec := { name := "emuNoughts", fn := fun _ => fun
  | [d1, d2, d3, d4] => { results := [.lit (.bool true)], args := [d1, d2, d3, d4] }
  | _ => none }
def emuNoughtsRow : OpenClaim := { program := "ytamimnaafiphcaadoor", sum := "592c91a207665b345f5deb311f4e5c17b8db801bb1a34625b25f847b21f3bff5", func := "switchback/switchbacklaw18.EmuNoughts", spec := "emuNoughts", unfollowed := true, recurses := true, named := ["switchback/enc.forms"], apart := false, laid := [("switchback/enc.forms", laid_switchback_enc_forms)] }
def EmuNoughtsSaid : Prop := emuNoughtsRow.holds Tryd.pinned (OpenSpec.ofChange emuNoughtsSpec)

/-- ITS FALSE NEIGHBOUR: 'it returns false'. Refute it at one input. -/
def emuNoughtsWrong : ChangeSpec := { name := "emuNoughts", fn := fun _ => fun
  | [d1, d2, d3, d4] => { results := [.lit (.bool false)], args := [d1, d2, d3, d4] }
  | _ => none }
def EmuNoughtsWrongFalsely : Prop := emuNoughtsRow.holds Tryd.pinned (OpenSpec.ofChange emuNoughtsWrong)

/-- 'switchbacklaw18.EmuRegisters': WHATEVER THE INPUT: true; the input reads as it did. -/
def emuRegistersSpec : ChangeSpec := { name := "emuRegisters", fn := fun _ => fun
  | [d1, d2, d3, d4, d5] => { results := [.lit (.bool true)], args := [d1, d2, d3, d4, d5] }
  | _ => none }
def emuRegistersRow : OpenClaim := { program := "ytamimnaafiphcaadoor", sum := "592c91a207665b345f5deb311f4e5c17b8db801bb1a34625b25f847b21f3bff5", func := "switchback/switchbacklaw18.EmuRegisters", spec := "emuRegisters", unfollowed := true, recurses := true, named := ["switchback/enc.forms"], apart := false, laid := [("switchback/enc.forms", laid_switchback_enc_forms)] }
def EmuRegistersSaid : Prop := emuRegistersRow.holds Tryd.pinned (OpenSpec.ofChange emuRegistersSpec)

/-- ITS FALSE NEIGHBOUR: 'it returns false'. Refute it at one input. -/
def emuRegistersWrong : ChangeSpec := { name := "emuRegisters", fn := fun _ => fun
  | [d1, d2, d3, d4, d5] => { results := [.lit (.bool false)], args := [d1, d2, d3, d4, d5] }
  | _ => none }
def EmuRegistersWrongFalsely : Prop := emuRegistersRow.holds Tryd.pinned (OpenSpec.ofChange emuRegistersWrong)

/-- 'switchbacklaw18.EmuIdle': WHATEVER THE INPUT: true; the input reads as it did. -/
def emuIdleSpec : ChangeSpec := { name := "emuIdle", fn := fun _ => fun
  | [d1, d2, d3, d4, d5] => { results := [.lit (.bool true)], args := [d1, d2, d3, d4, d5] }
  | _ => none }
def emuIdleRow : OpenClaim := { program := "ytamimnaafiphcaadoor", sum := "592c91a207665b345f5deb311f4e5c17b8db801bb1a34625b25f847b21f3bff5", func := "switchback/switchbacklaw18.EmuIdle", spec := "emuIdle", unfollowed := true, recurses := true, named := ["switchback/enc.forms"], apart := false, laid := [("switchback/enc.forms", laid_switchback_enc_forms)] }
def EmuIdleSaid : Prop := emuIdleRow.holds Tryd.pinned (OpenSpec.ofChange emuIdleSpec)

/-- ITS FALSE NEIGHBOUR: 'it returns false'. Refute it at one input. -/
def emuIdleWrong : ChangeSpec := { name := "emuIdle", fn := fun _ => fun
  | [d1, d2, d3, d4, d5] => { results := [.lit (.bool false)], args := [d1, d2, d3, d4, d5] }
  | _ => none }
def EmuIdleWrongFalsely : Prop := emuIdleRow.holds Tryd.pinned (OpenSpec.ofChange emuIdleWrong)

/- THE SECOND FORM. 'bulk': how many values and letters a reading holds, each counted each time it is reached (what is shared counts as often as it is met; a slice's spare places count too). A statement '..UptoSaid' is the law's where the arguments, and the package variables that the reading takes, are together of bulk at most 1048576: NARROWER than '..Said'. Prove '..Said' where nothing that the law and all that it calls make is longer than what came in: it says more and counts as full. Else prove '..UptoSaid'. A law counts once. -/
mutual
def uptoBulk {H : Type} : DataW H → Nat
  | .lit (.string bytes) => bytes.length + 1
  | .lit _ => 1
  | .nil => 1
  | .ptr d => uptoBulk d + 1
  | .slice elems spare => uptoBulkAll elems + uptoBulkAll spare + 1
  | .agg parts => uptoBulkAll parts + 1
  | .iface _ d => uptoBulk d + 1
  | .map entries => uptoBulkEntries entries + 1
  | .held _ => 1
def uptoBulkAll {H : Type} : List (DataW H) → Nat
  | [] => 0
  | d :: r => uptoBulk d + uptoBulkAll r
def uptoBulkEntries {H : Type} : List (Lit × DataW H) → Nat
  | [] => 0
  | x :: r => uptoBulkEntry x + uptoBulkEntries r
def uptoBulkEntry {H : Type} : Lit × DataW H → Nat
  | (.string bytes, d) => bytes.length + uptoBulk d + 1
  | (_, d) => uptoBulk d + 1
 end
def uptoSmall : (H : Type) → List (DataW H) → Bool := fun _ ds => decide (uptoBulkAll ds ≤ 1048576)
def OpenSpec.upto (s : _root_.Go.ChangeSpec) : _root_.Go.OpenSpec := { _root_.Go.OpenSpec.ofChange s with cond := some uptoSmall }

/-- 'switchbacklaw17.RelaxAnswers', WHERE WHAT IT READS IS OF BULK AT MOST 1048576: true; the input reads as it did. -/
def relaxAnswersUptoRow : OpenClaim := { program := "ytamimnaafiphcaadoor", sum := "592c91a207665b345f5deb311f4e5c17b8db801bb1a34625b25f847b21f3bff5", func := "switchback/switchbacklaw17.RelaxAnswers", spec := "relaxAnswers", named := ["switchback/enc.forms"], apart := false, laid := [("switchback/enc.forms", laid_switchback_enc_forms)], narrowed := true }
def RelaxAnswersUptoSaid : Prop := relaxAnswersUptoRow.holds Tryd.pinned (OpenSpec.upto relaxAnswersSpec)

/-- 'switchbacklaw17.RelaxRounds', WHERE WHAT IT READS IS OF BULK AT MOST 1048576: true; the input reads as it did. -/
def relaxRoundsUptoRow : OpenClaim := { program := "ytamimnaafiphcaadoor", sum := "592c91a207665b345f5deb311f4e5c17b8db801bb1a34625b25f847b21f3bff5", func := "switchback/switchbacklaw17.RelaxRounds", spec := "relaxRounds", named := ["switchback/enc.forms"], apart := false, laid := [("switchback/enc.forms", laid_switchback_enc_forms)], narrowed := true }
def RelaxRoundsUptoSaid : Prop := relaxRoundsUptoRow.holds Tryd.pinned (OpenSpec.upto relaxRoundsSpec)

/-- 'switchbacklaw17.RelaxAll', WHERE WHAT IT READS IS OF BULK AT MOST 1048576: true; the input reads as it did. -/
def relaxAllUptoRow : OpenClaim := { program := "ytamimnaafiphcaadoor", sum := "592c91a207665b345f5deb311f4e5c17b8db801bb1a34625b25f847b21f3bff5", func := "switchback/switchbacklaw17.RelaxAll", spec := "relaxAll", named := ["switchback/enc.forms"], apart := false, laid := [("switchback/enc.forms", laid_switchback_enc_forms)], narrowed := true }
def RelaxAllUptoSaid : Prop := relaxAllUptoRow.holds Tryd.pinned (OpenSpec.upto relaxAllSpec)

/-- 'switchbacklaw17.RelaxLabels', WHERE WHAT IT READS IS OF BULK AT MOST 1048576: true; the input reads as it did. -/
def relaxLabelsUptoRow : OpenClaim := { program := "ytamimnaafiphcaadoor", sum := "592c91a207665b345f5deb311f4e5c17b8db801bb1a34625b25f847b21f3bff5", func := "switchback/switchbacklaw17.RelaxLabels", spec := "relaxLabels", named := ["switchback/enc.forms"], apart := false, laid := [("switchback/enc.forms", laid_switchback_enc_forms)], narrowed := true }
def RelaxLabelsUptoSaid : Prop := relaxLabelsUptoRow.holds Tryd.pinned (OpenSpec.upto relaxLabelsSpec)

/-- 'switchbacklaw17.RelaxBack', WHERE WHAT IT READS IS OF BULK AT MOST 1048576: true; the input reads as it did. -/
def relaxBackUptoRow : OpenClaim := { program := "ytamimnaafiphcaadoor", sum := "592c91a207665b345f5deb311f4e5c17b8db801bb1a34625b25f847b21f3bff5", func := "switchback/switchbacklaw17.RelaxBack", spec := "relaxBack", named := ["switchback/enc.forms"], apart := false, laid := [("switchback/enc.forms", laid_switchback_enc_forms)], narrowed := true }
def RelaxBackUptoSaid : Prop := relaxBackUptoRow.holds Tryd.pinned (OpenSpec.upto relaxBackSpec)

/-- 'switchbacklaw17.RelaxLeast', WHERE WHAT IT READS IS OF BULK AT MOST 1048576: true; the input reads as it did. -/
def relaxLeastUptoRow : OpenClaim := { program := "ytamimnaafiphcaadoor", sum := "592c91a207665b345f5deb311f4e5c17b8db801bb1a34625b25f847b21f3bff5", func := "switchback/switchbacklaw17.RelaxLeast", spec := "relaxLeast", named := ["switchback/enc.forms"], apart := false, laid := [("switchback/enc.forms", laid_switchback_enc_forms)], narrowed := true }
def RelaxLeastUptoSaid : Prop := relaxLeastUptoRow.holds Tryd.pinned (OpenSpec.upto relaxLeastSpec)

/-- 'switchbacklaw17.RelaxShrinks', WHERE WHAT IT READS IS OF BULK AT MOST 1048576: true; the input reads as it did. -/
def relaxShrinksUptoRow : OpenClaim := { program := "ytamimnaafiphcaadoor", sum := "592c91a207665b345f5deb311f4e5c17b8db801bb1a34625b25f847b21f3bff5", func := "switchback/switchbacklaw17.RelaxShrinks", spec := "relaxShrinks", named := ["switchback/enc.forms"], apart := false, laid := [("switchback/enc.forms", laid_switchback_enc_forms)], narrowed := true }
def RelaxShrinksUptoSaid : Prop := relaxShrinksUptoRow.holds Tryd.pinned (OpenSpec.upto relaxShrinksSpec)

/-- 'switchbacklaw18.EmuRuns', WHERE WHAT IT READS IS OF BULK AT MOST 1048576: true; the input reads as it did. -/
def emuRunsUptoRow : OpenClaim := { program := "ytamimnaafiphcaadoor", sum := "592c91a207665b345f5deb311f4e5c17b8db801bb1a34625b25f847b21f3bff5", func := "switchback/switchbacklaw18.EmuRuns", spec := "emuRuns", unfollowed := true, recurses := true, named := ["switchback/enc.forms"], apart := false, laid := [("switchback/enc.forms", laid_switchback_enc_forms)], narrowed := true }
def EmuRunsUptoSaid : Prop := emuRunsUptoRow.holds Tryd.pinned (OpenSpec.upto emuRunsSpec)

/-- 'switchbacklaw18.EmuFuel', WHERE WHAT IT READS IS OF BULK AT MOST 1048576: true; the input reads as it did. -/
def emuFuelUptoRow : OpenClaim := { program := "ytamimnaafiphcaadoor", sum := "592c91a207665b345f5deb311f4e5c17b8db801bb1a34625b25f847b21f3bff5", func := "switchback/switchbacklaw18.EmuFuel", spec := "emuFuel", unfollowed := true, recurses := true, named := ["switchback/enc.forms"], apart := false, laid := [("switchback/enc.forms", laid_switchback_enc_forms)], narrowed := true }
def EmuFuelUptoSaid : Prop := emuFuelUptoRow.holds Tryd.pinned (OpenSpec.upto emuFuelSpec)

/-- 'switchbacklaw18.EmuKinds', WHERE WHAT IT READS IS OF BULK AT MOST 1048576: true; the input reads as it did. -/
def emuKindsUptoRow : OpenClaim := { program := "ytamimnaafiphcaadoor", sum := "592c91a207665b345f5deb311f4e5c17b8db801bb1a34625b25f847b21f3bff5", func := "switchback/switchbacklaw18.EmuKinds", spec := "emuKinds", unfollowed := true, recurses := true, named := ["switchback/enc.forms"], apart := false, laid := [("switchback/enc.forms", laid_switchback_enc_forms)], narrowed := true }
def EmuKindsUptoSaid : Prop := emuKindsUptoRow.holds Tryd.pinned (OpenSpec.upto emuKindsSpec)

/-- 'switchbacklaw18.EmuAny', WHERE WHAT IT READS IS OF BULK AT MOST 1048576: true; the input reads as it did. -/
def emuAnyUptoRow : OpenClaim := { program := "ytamimnaafiphcaadoor", sum := "592c91a207665b345f5deb311f4e5c17b8db801bb1a34625b25f847b21f3bff5", func := "switchback/switchbacklaw18.EmuAny", spec := "emuAny", unfollowed := true, recurses := true, named := ["switchback/enc.forms"], apart := false, laid := [("switchback/enc.forms", laid_switchback_enc_forms)], narrowed := true }
def EmuAnyUptoSaid : Prop := emuAnyUptoRow.holds Tryd.pinned (OpenSpec.upto emuAnySpec)

/-- 'switchbacklaw18.EmuBehind', WHERE WHAT IT READS IS OF BULK AT MOST 1048576: true; the input reads as it did. -/
def emuBehindUptoRow : OpenClaim := { program := "ytamimnaafiphcaadoor", sum := "592c91a207665b345f5deb311f4e5c17b8db801bb1a34625b25f847b21f3bff5", func := "switchback/switchbacklaw18.EmuBehind", spec := "emuBehind", unfollowed := true, recurses := true, named := ["switchback/enc.forms"], apart := false, laid := [("switchback/enc.forms", laid_switchback_enc_forms)], narrowed := true }
def EmuBehindUptoSaid : Prop := emuBehindUptoRow.holds Tryd.pinned (OpenSpec.upto emuBehindSpec)

/-- 'switchbacklaw18.EmuNoughts', WHERE WHAT IT READS IS OF BULK AT MOST 1048576: true; the input reads as it did. -/
def emuNoughtsUptoRow : OpenClaim := { program := "ytamimnaafiphcaadoor", sum := "592c91a207665b345f5deb311f4e5c17b8db801bb1a34625b25f847b21f3bff5", func := "switchback/switchbacklaw18.EmuNoughts", spec := "emuNoughts", unfollowed := true, recurses := true, named := ["switchback/enc.forms"], apart := false, laid := [("switchback/enc.forms", laid_switchback_enc_forms)], narrowed := true }
def EmuNoughtsUptoSaid : Prop := emuNoughtsUptoRow.holds Tryd.pinned (OpenSpec.upto emuNoughtsSpec)

/-- 'switchbacklaw18.EmuRegisters', WHERE WHAT IT READS IS OF BULK AT MOST 1048576: true; the input reads as it did. -/
def emuRegistersUptoRow : OpenClaim := { program := "ytamimnaafiphcaadoor", sum := "592c91a207665b345f5deb311f4e5c17b8db801bb1a34625b25f847b21f3bff5", func := "switchback/switchbacklaw18.EmuRegisters", spec := "emuRegisters", unfollowed := true, recurses := true, named := ["switchback/enc.forms"], apart := false, laid := [("switchback/enc.forms", laid_switchback_enc_forms)], narrowed := true }
def EmuRegistersUptoSaid : Prop := emuRegistersUptoRow.holds Tryd.pinned (OpenSpec.upto emuRegistersSpec)

/-- 'switchbacklaw18.EmuIdle', WHERE WHAT IT READS IS OF BULK AT MOST 1048576: true; the input reads as it did. -/
def emuIdleUptoRow : OpenClaim := { program := "ytamimnaafiphcaadoor", sum := "592c91a207665b345f5deb311f4e5c17b8db801bb1a34625b25f847b21f3bff5", func := "switchback/switchbacklaw18.EmuIdle", spec := "emuIdle", unfollowed := true, recurses := true, named := ["switchback/enc.forms"], apart := false, laid := [("switchback/enc.forms", laid_switchback_enc_forms)], narrowed := true }
def EmuIdleUptoSaid : Prop := emuIdleUptoRow.holds Tryd.pinned (OpenSpec.upto emuIdleSpec)

end Rows
end Go.Proofs.YtamimnaafiphcaaDoor
