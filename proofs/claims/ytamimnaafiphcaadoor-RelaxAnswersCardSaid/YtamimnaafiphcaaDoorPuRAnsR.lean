/- The law RelaxAnswers, its contract. -/
import Derived.Test.YtamimnaafiphcaaDoorPuRAns
import Derived.Test.YtamimnaafiphcaaDoorPR1Dx44
import Derived.Test.YtamimnaafiphcaaDoorRxO2
namespace Go.Proofs.YtamimnaafiphcaaDoor.PR1D
open Go.RowKit Go.Proofs.YtamimnaafiphcaaDoorW.PrintWords Go.Proofs.YtamimnaafiphcaaDoorW.PrintLast Go.Proofs.YtamimnaafiphcaaDoorW.PrintMore

theorem answers_row (ls : List Line) (A : Option Addr) (c : Nat) (w : World) (hL : Laid w) (hl : Lines w (.slice A ls.length c) ls) (hwf : ∀ l ∈ ls, (Lit.int .i64 l.label).wf = true ∧ ∀ y ∈ l.list, (Lit.int .i64 y).wf = true)
    (hc : ls.length ≤ c ∧ ls.length * 72 ≤ 140737488351232 ∧ ∀ l ∈ ls, l.list.length * 8 ≤ 140737488351232) :
    Calls Tryd.prog 3 #[.slice A ls.length c] w fun e w' => e = .returned (.bool true) ∧ Below w.heap.size w w' := by
  obtain ⟨k, h⟩ := (answers_f (ls.map ofLine) (wf_of hwf) (by rw [List.length_map]; omega) (fun x hx => by
    obtain ⟨l, hl', rfl⟩ := List.mem_map.1 hx
    have := hc.2.2 l hl'
    show l.list.length < _
    omega)).rounds
  have := switchbacklaw17_RelaxAnswers.calls k A c (ls.map ofLine) true w (of_lines hl) (by simpa using hc.1) ⟨hL⟩ h
  rwa [List.length_map] at this

end Go.Proofs.YtamimnaafiphcaaDoor.PR1D
