/- the law's live, given to the print: it answers true; walked over its real body. -/
import Derived.Test.YtjoboaaambdpoaaDoorPR01x51
set_option linter.unusedVariables false
set_option linter.unusedSimpArgs false
namespace Go.Proofs.YtjoboaaambdpoaaDoor.PR01
open Go.RowKit Go.Proofs.YtjoboaaambdpoaaDoorW.PrintWords Go.Proofs.YtjoboaaambdpoaaDoorW.PrintLast Go.Proofs.YtjoboaaambdpoaaDoorW.PrintMore Go.Maps Go.Joins

def liveS : List S29 := [⟨1, 0, ⟨#[97]⟩, 0, false⟩, ⟨4, 1, ⟨#[43, 43]⟩, 0, false⟩, ⟨4, 3, ⟨#[43]⟩, 0, false⟩, ⟨2, 4, ⟨#[]⟩, 31, true⟩, ⟨0, 9, ⟨#[]⟩, 0, false⟩]

theorem lexR_live : lexR ⟨#[97, 43, 43, 43, 48, 120, 49, 70, 117]⟩ = (liveS, 0, 0) := by kernel_rfl

/-! ### switchbacklaw01_live: function 14 -/
def switchbacklaw01_live.f : Option (Bool) := some true

set_option maxHeartbeats 8000000 in
set_option maxRecDepth 100000 in
theorem switchbacklaw01_live.calls (r : Bool) (w : World) (hLaid_ : Aside0 (Laid w)) (h : switchbacklaw01_live.f = some r) :
    Calls Tryd.prog 14 #[] w fun e w' => e = .returned (.bool r) ∧ Below w.heap.size w w' := by
  obtain rfl : true = r := Option.some.inj h
  have CL := Lib.hid (lex_Lex.calls ⟨#[97, 43, 43, 43, 48, 120, 49, 70, 117]⟩ liveS 0 0 w hLaid_ (by unfold lex_Lex.f; rw [lexR_live]))
  clear h
  have hu := Tryd.underlying29
  go_enter Tryd.func14, Tryd.ntmps14
  go_wp2_with fail
  refine CL.out.mono ?_
  rintro e w1 ⟨v, rfl, hR, hB⟩
  obtain ⟨g, cap, rfl, -⟩ := Kd.R_form hR (by decide)
  have hC := (Kd.R_reads' hR).2.2
  have hc5 := (Kd.R_reads' hR).2.1
  obtain ⟨ad1, e1, -, -, x1, -, -⟩ := at_T29 hC 1 (by decide) (by decide)
  obtain ⟨ad3, e3, y0, y1, y2, y3, y4⟩ := at_T29 hC 3 (by decide) (by decide)
  obtain ⟨ad4, e4, -, z1, -, -, -⟩ := at_T29 hC 4 (by decide) (by decide)
  cases e1
  cases e3
  cases e4
  have X1 : w1.cell? ⟨g, 7, none⟩ = some (.string ⟨#[43, 43]⟩) := x1
  have Y0 : w1.cell? ⟨g, 15, none⟩ = some (.int .i64 2) := y0
  have Y1 : w1.cell? ⟨g, 16, none⟩ = some (.int .i64 4) := y1
  have Y2 : w1.cell? ⟨g, 17, none⟩ = some (.string ⟨#[]⟩) := y2
  have Y3 : w1.cell? ⟨g, 18, none⟩ = some (.int .u32 31) := y3
  have Y4 : w1.cell? ⟨g, 19, none⟩ = some (.bool true) := y4
  have Z1 : w1.cell? ⟨g, 21, none⟩ = some (.int .i64 9) := z1
  have HB := Lib.hid hB
  clear x1 y0 y1 y2 y3 y4 z1 hC hR hB CL
  rw [show liveS.length = 5 from rfl] at hc5 ⊢
  go_wp2_with fail
  go_ret
  exact ⟨rfl, HB.out⟩

end Go.Proofs.YtjoboaaambdpoaaDoor.PR01
