/- The law RelaxBack, its contract. -/
import Derived.Test.YtamimnaafiphcaaDoorPuRBl
import Derived.Test.YtamimnaafiphcaaDoorPR1Cx34
namespace Go.Proofs.YtamimnaafiphcaaDoor.PR1C
open Go.RowKit Go.Proofs.YtamimnaafiphcaaDoorW.PrintWords Go.Proofs.YtamimnaafiphcaaDoorW.PrintLast Go.Proofs.YtamimnaafiphcaaDoorW.PrintMore

theorem back_row (ls : List Line) (A : Option Addr) (c : Nat) (w : World) (hL : Laid w) (hl : Lines w (.slice A ls.length c) ls) (hwf : ∀ l ∈ ls, (Lit.int .i64 l.label).wf = true ∧ ∀ y ∈ l.list, (Lit.int .i64 y).wf = true) (hc : ls.length ≤ c) :
    Calls Tryd.prog 7 #[.slice A ls.length c] w fun e w' => e = .returned (.bool true) ∧ Below w.heap.size w w' := by
  obtain ⟨k, h⟩ := (back_f (ls.map ofLine) (wf_of hwf)).rounds
  have := switchbacklaw17_RelaxBack.calls k A c (ls.map ofLine) true w (of_lines hl) (by simpa using hc) ⟨hL⟩ h
  rwa [List.length_map] at this

end Go.Proofs.YtamimnaafiphcaaDoor.PR1C
