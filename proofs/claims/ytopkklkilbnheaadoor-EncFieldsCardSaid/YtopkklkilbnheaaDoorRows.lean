/-
  NARROWER THAN 'FOR EVERY INPUT', by the rows' own cells (each row's printed sentence says how): EncWrites: laid · EncReads: laid · EncFollows: laid · EncBack: laid · EncApart: laid · EncFields: laid.
  DERIVED. THE GIVEN ROWS OF THIS SEAT. 6 by the template 'for every input the law returns true; each argument reads behind the call as it read before'; 0 by the template 'total and deterministic' (their statements: YtopkklkilbnheaaDoorTotals.lean).
  GIVEN WITH THE SEED: the statements are not yours to turn. If you find one false, say at which input.
  Laid BY PROGRAM, IN A SANDBOX (cutbox-rows.mjs): the forced cells as the released guide's own fill.sh prints them over the translation 5b3564b16e835145… (all of the seat's roots in one cut). By AI agents, Wed Nov 11 2026. No macro, syntax, notation, axiom, sorry.
-/
import Derived.Test.YtopkklkilbnheaaDoorChecked
import GoSem.Claim
import GoSem.ClaimJoined
import GoSem.ClaimMapViews
import Derived.JoinedTies
import Derived.KernelRfl
namespace Go.Proofs.YtopkklkilbnheaaDoor
/- THE CELL 'sum', in the pinned program and in every row, IS THE sha256 OF THE DUMP (.gsa) THAT YtopkklkilbnheaaDoorProg.lean LOADS. Nothing in Lean hashes anything: it is a label: what it is worth is what the hold of that sum in a sandbox is worth. -/
noncomputable def Tryd.pinned : Pinned := { name := "ytopkklkilbnheaadoor", sum := "5b3564b16e8351451744882f924650fe5c8763e1d8c8c924de9f5ed7cb57923c", checked := Tryd.checked }
namespace Rows
def none {H : Type} : Left H := { results := [], args := [] }

/- WHAT THE LISTED PACKAGE-LEVEL VARIABLES READ AS WHEN THE CALL BEGINS. Each datum BY PROGRAM (the guide's laid-datum.mjs) off the statement by which the dump's own 'gosem.cut.vars' lays the variable. In a bare row this is a premise. The card (YtopkklkilbnheaaDoorCards.lean) ties it to the program's text. -/
def laid_switchback_enc_forms {H : Type} : DataW H := .agg [.lit (.int .u8 9), .lit (.int .u8 1), .lit (.int .u8 2), .lit (.int .u8 3), .lit (.int .u8 4), .lit (.int .u8 5), .lit (.int .u8 5), .lit (.int .u8 5), .lit (.int .u8 5), .lit (.int .u8 5), .lit (.int .u8 5), .lit (.int .u8 5), .lit (.int .u8 5), .lit (.int .u8 5), .lit (.int .u8 5), .lit (.int .u8 5), .lit (.int .u8 5), .lit (.int .u8 5), .lit (.int .u8 5), .lit (.int .u8 5), .lit (.int .u8 5), .lit (.int .u8 5), .lit (.int .u8 5), .lit (.int .u8 5), .lit (.int .u8 3), .lit (.int .u8 3), .lit (.int .u8 3), .lit (.int .u8 4), .lit (.int .u8 4), .lit (.int .u8 3), .lit (.int .u8 6), .lit (.int .u8 6), .lit (.int .u8 6), .lit (.int .u8 6), .lit (.int .u8 6), .lit (.int .u8 6), .lit (.int .u8 6), .lit (.int .u8 6), .lit (.int .u8 6), .lit (.int .u8 6), .lit (.int .u8 7), .lit (.int .u8 0), .lit (.int .u8 2), .lit (.int .u8 0), .lit (.int .u8 0), .lit (.int .u8 2), .lit (.int .u8 2), .lit (.int .u8 2), .lit (.int .u8 8)]

/-- 'switchbacklaw16.EncWrites': WHATEVER THE INPUT: true; the input reads as it did. -/
def encWritesSpec : ChangeSpec := { name := "encWrites", fn := fun _ => fun
  | [d] => { results := [.lit (.bool true)], args := [d] }
  | _ => none }
def encWritesRow : OpenClaim := { program := "ytopkklkilbnheaadoor", sum := "5b3564b16e8351451744882f924650fe5c8763e1d8c8c924de9f5ed7cb57923c", func := "switchback/switchbacklaw16.EncWrites", spec := "encWrites", named := ["switchback/enc.forms"], apart := false, laid := [("switchback/enc.forms", laid_switchback_enc_forms)] }
def EncWritesSaid : Prop := encWritesRow.holds Tryd.pinned (OpenSpec.ofChange encWritesSpec)

/-- ITS FALSE NEIGHBOUR: 'it returns false'. Refute it at one input. -/
def encWritesWrong : ChangeSpec := { name := "encWrites", fn := fun _ => fun
  | [d] => { results := [.lit (.bool false)], args := [d] }
  | _ => none }
def EncWritesWrongFalsely : Prop := encWritesRow.holds Tryd.pinned (OpenSpec.ofChange encWritesWrong)

/-- 'switchbacklaw16.EncReads': WHATEVER THE INPUT: true; the input reads as it did. -/
def encReadsSpec : ChangeSpec := { name := "encReads", fn := fun _ => fun
  | [d] => { results := [.lit (.bool true)], args := [d] }
  | _ => none }
def encReadsRow : OpenClaim := { program := "ytopkklkilbnheaadoor", sum := "5b3564b16e8351451744882f924650fe5c8763e1d8c8c924de9f5ed7cb57923c", func := "switchback/switchbacklaw16.EncReads", spec := "encReads", named := ["switchback/enc.forms"], apart := false, laid := [("switchback/enc.forms", laid_switchback_enc_forms)] }
def EncReadsSaid : Prop := encReadsRow.holds Tryd.pinned (OpenSpec.ofChange encReadsSpec)

/-- ITS FALSE NEIGHBOUR: 'it returns false'. Refute it at one input. -/
def encReadsWrong : ChangeSpec := { name := "encReads", fn := fun _ => fun
  | [d] => { results := [.lit (.bool false)], args := [d] }
  | _ => none }
def EncReadsWrongFalsely : Prop := encReadsRow.holds Tryd.pinned (OpenSpec.ofChange encReadsWrong)

/-- 'switchbacklaw16.EncFollows': WHATEVER THE INPUT: true; the input reads as it did. -/
def encFollowsSpec : ChangeSpec := { name := "encFollows", fn := fun _ => fun
  | [d] => { results := [.lit (.bool true)], args := [d] }
  | _ => none }
def encFollowsRow : OpenClaim := { program := "ytopkklkilbnheaadoor", sum := "5b3564b16e8351451744882f924650fe5c8763e1d8c8c924de9f5ed7cb57923c", func := "switchback/switchbacklaw16.EncFollows", spec := "encFollows", named := ["switchback/enc.forms"], apart := false, laid := [("switchback/enc.forms", laid_switchback_enc_forms)] }
def EncFollowsSaid : Prop := encFollowsRow.holds Tryd.pinned (OpenSpec.ofChange encFollowsSpec)

/-- ITS FALSE NEIGHBOUR: 'it returns false'. Refute it at one input. -/
def encFollowsWrong : ChangeSpec := { name := "encFollows", fn := fun _ => fun
  | [d] => { results := [.lit (.bool false)], args := [d] }
  | _ => none }
def EncFollowsWrongFalsely : Prop := encFollowsRow.holds Tryd.pinned (OpenSpec.ofChange encFollowsWrong)

/-- 'switchbacklaw16.EncBack': WHATEVER THE INPUT: true; the input reads as it did. -/
def encBackSpec : ChangeSpec := { name := "encBack", fn := fun _ => fun
  | [d1, d2] => { results := [.lit (.bool true)], args := [d1, d2] }
  | _ => none }
def encBackRow : OpenClaim := { program := "ytopkklkilbnheaadoor", sum := "5b3564b16e8351451744882f924650fe5c8763e1d8c8c924de9f5ed7cb57923c", func := "switchback/switchbacklaw16.EncBack", spec := "encBack", named := ["switchback/enc.forms"], apart := false, laid := [("switchback/enc.forms", laid_switchback_enc_forms)] }
def EncBackSaid : Prop := encBackRow.holds Tryd.pinned (OpenSpec.ofChange encBackSpec)

/-- ITS FALSE NEIGHBOUR: 'it returns false'. Refute it at one input. -/
def encBackWrong : ChangeSpec := { name := "encBack", fn := fun _ => fun
  | [d1, d2] => { results := [.lit (.bool false)], args := [d1, d2] }
  | _ => none }
def EncBackWrongFalsely : Prop := encBackRow.holds Tryd.pinned (OpenSpec.ofChange encBackWrong)

/-- 'switchbacklaw16.EncApart': WHATEVER THE INPUT: true; the input reads as it did. -/
def encApartSpec : ChangeSpec := { name := "encApart", fn := fun _ => fun
  | [d1, d2] => { results := [.lit (.bool true)], args := [d1, d2] }
  | _ => none }
def encApartRow : OpenClaim := { program := "ytopkklkilbnheaadoor", sum := "5b3564b16e8351451744882f924650fe5c8763e1d8c8c924de9f5ed7cb57923c", func := "switchback/switchbacklaw16.EncApart", spec := "encApart", named := ["switchback/enc.forms"], apart := false, laid := [("switchback/enc.forms", laid_switchback_enc_forms)] }
def EncApartSaid : Prop := encApartRow.holds Tryd.pinned (OpenSpec.ofChange encApartSpec)

/-- ITS FALSE NEIGHBOUR: 'it returns false'. Refute it at one input. -/
def encApartWrong : ChangeSpec := { name := "encApart", fn := fun _ => fun
  | [d1, d2] => { results := [.lit (.bool false)], args := [d1, d2] }
  | _ => none }
def EncApartWrongFalsely : Prop := encApartRow.holds Tryd.pinned (OpenSpec.ofChange encApartWrong)

/-- 'switchbacklaw16.EncFields': WHATEVER THE INPUT: true; the input reads as it did. -/
def encFieldsSpec : ChangeSpec := { name := "encFields", fn := fun _ => fun
  | [d1, d2, d3] => { results := [.lit (.bool true)], args := [d1, d2, d3] }
  | _ => none }
def encFieldsRow : OpenClaim := { program := "ytopkklkilbnheaadoor", sum := "5b3564b16e8351451744882f924650fe5c8763e1d8c8c924de9f5ed7cb57923c", func := "switchback/switchbacklaw16.EncFields", spec := "encFields", named := ["switchback/enc.forms"], apart := false, laid := [("switchback/enc.forms", laid_switchback_enc_forms)] }
def EncFieldsSaid : Prop := encFieldsRow.holds Tryd.pinned (OpenSpec.ofChange encFieldsSpec)

/-- ITS FALSE NEIGHBOUR: 'it returns false'. Refute it at one input. -/
def encFieldsWrong : ChangeSpec := { name := "encFields", fn := fun _ => fun
  | [d1, d2, d3] => { results := [.lit (.bool false)], args := [d1, d2, d3] }
  | _ => none }
def EncFieldsWrongFalsely : Prop := encFieldsRow.holds Tryd.pinned (OpenSpec.ofChange encFieldsWrong)

/- THE SECOND FORM. 'bulk': how many values and letters a reading holds, each counted each time it is reached (what is shared counts as often as it is met; a slice's spare places count too). A statement '..UptoSaid' is the law's where the arguments, and the package variables that the reading takes, are together of bulk at most 1048576: NARROWER than '..Said'. Prove '..Said' where nothing that the law and all that it calls make is longer than what came in: it says more and counts as full. Else prove '..UptoSaid'. A law counts once. -/
mutual
def uptoBulk {H : Type} : DataW H → Nat
  | .lit (.string bytes) => bytes.length + 1
  | .lit _ => 1
  | .nil => 1
  | .ptr d => uptoBulk d + 1
  | .slice elems spare => uptoBulkAll elems + uptoBulkAll spare + 1
  | .agg parts => uptoBulkAll parts + 1
  | .iface _ d => uptoBulk d + 1
  | .map entries => uptoBulkEntries entries + 1
  | .held _ => 1
def uptoBulkAll {H : Type} : List (DataW H) → Nat
  | [] => 0
  | d :: r => uptoBulk d + uptoBulkAll r
def uptoBulkEntries {H : Type} : List (Lit × DataW H) → Nat
  | [] => 0
  | x :: r => uptoBulkEntry x + uptoBulkEntries r
def uptoBulkEntry {H : Type} : Lit × DataW H → Nat
  | (.string bytes, d) => bytes.length + uptoBulk d + 1
  | (_, d) => uptoBulk d + 1
 end
def uptoSmall : (H : Type) → List (DataW H) → Bool := fun _ ds => decide (uptoBulkAll ds ≤ 1048576)
def OpenSpec.upto (s : _root_.Go.ChangeSpec) : _root_.Go.OpenSpec := { _root_.Go.OpenSpec.ofChange s with cond := some uptoSmall }

/-- 'switchbacklaw16.EncWrites', WHERE WHAT IT READS IS OF BULK AT MOST 1048576: true; the input reads as it did. -/
def encWritesUptoRow : OpenClaim := { program := "ytopkklkilbnheaadoor", sum := "5b3564b16e8351451744882f924650fe5c8763e1d8c8c924de9f5ed7cb57923c", func := "switchback/switchbacklaw16.EncWrites", spec := "encWrites", named := ["switchback/enc.forms"], apart := false, laid := [("switchback/enc.forms", laid_switchback_enc_forms)], narrowed := true }
def EncWritesUptoSaid : Prop := encWritesUptoRow.holds Tryd.pinned (OpenSpec.upto encWritesSpec)

/-- 'switchbacklaw16.EncReads', WHERE WHAT IT READS IS OF BULK AT MOST 1048576: true; the input reads as it did. -/
def encReadsUptoRow : OpenClaim := { program := "ytopkklkilbnheaadoor", sum := "5b3564b16e8351451744882f924650fe5c8763e1d8c8c924de9f5ed7cb57923c", func := "switchback/switchbacklaw16.EncReads", spec := "encReads", named := ["switchback/enc.forms"], apart := false, laid := [("switchback/enc.forms", laid_switchback_enc_forms)], narrowed := true }
def EncReadsUptoSaid : Prop := encReadsUptoRow.holds Tryd.pinned (OpenSpec.upto encReadsSpec)

/-- 'switchbacklaw16.EncFollows', WHERE WHAT IT READS IS OF BULK AT MOST 1048576: true; the input reads as it did. -/
def encFollowsUptoRow : OpenClaim := { program := "ytopkklkilbnheaadoor", sum := "5b3564b16e8351451744882f924650fe5c8763e1d8c8c924de9f5ed7cb57923c", func := "switchback/switchbacklaw16.EncFollows", spec := "encFollows", named := ["switchback/enc.forms"], apart := false, laid := [("switchback/enc.forms", laid_switchback_enc_forms)], narrowed := true }
def EncFollowsUptoSaid : Prop := encFollowsUptoRow.holds Tryd.pinned (OpenSpec.upto encFollowsSpec)

/-- 'switchbacklaw16.EncBack', WHERE WHAT IT READS IS OF BULK AT MOST 1048576: true; the input reads as it did. -/
def encBackUptoRow : OpenClaim := { program := "ytopkklkilbnheaadoor", sum := "5b3564b16e8351451744882f924650fe5c8763e1d8c8c924de9f5ed7cb57923c", func := "switchback/switchbacklaw16.EncBack", spec := "encBack", named := ["switchback/enc.forms"], apart := false, laid := [("switchback/enc.forms", laid_switchback_enc_forms)], narrowed := true }
def EncBackUptoSaid : Prop := encBackUptoRow.holds Tryd.pinned (OpenSpec.upto encBackSpec)

/-- 'switchbacklaw16.EncApart', WHERE WHAT IT READS IS OF BULK AT MOST 1048576: true; the input reads as it did. -/
def encApartUptoRow : OpenClaim := { program := "ytopkklkilbnheaadoor", sum := "5b3564b16e8351451744882f924650fe5c8763e1d8c8c924de9f5ed7cb57923c", func := "switchback/switchbacklaw16.EncApart", spec := "encApart", named := ["switchback/enc.forms"], apart := false, laid := [("switchback/enc.forms", laid_switchback_enc_forms)], narrowed := true }
def EncApartUptoSaid : Prop := encApartUptoRow.holds Tryd.pinned (OpenSpec.upto encApartSpec)

/-- 'switchbacklaw16.EncFields', WHERE WHAT IT READS IS OF BULK AT MOST 1048576: true; the input reads as it did. -/
def encFieldsUptoRow : OpenClaim := { program := "ytopkklkilbnheaadoor", sum := "5b3564b16e8351451744882f924650fe5c8763e1d8c8c924de9f5ed7cb57923c", func := "switchback/switchbacklaw16.EncFields", spec := "encFields", named := ["switchback/enc.forms"], apart := false, laid := [("switchback/enc.forms", laid_switchback_enc_forms)], narrowed := true }
def EncFieldsUptoSaid : Prop := encFieldsUptoRow.holds Tryd.pinned (OpenSpec.upto encFieldsSpec)

end Rows
end Go.Proofs.YtopkklkilbnheaaDoor
