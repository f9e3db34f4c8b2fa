/- An element of a list of lines. -/
import Derived.Test.YtamimnaafiphcaaDoorPuX
namespace Go.Proofs.YtamimnaafiphcaaDoor.PR1C
open Go.RowKit Go.Proofs.YtamimnaafiphcaaDoorW.PrintWords Go.Proofs.YtamimnaafiphcaaDoorW.PrintLast Go.Proofs.YtamimnaafiphcaaDoorW.PrintMore

theorem rdAt (l : List S40) (i : Nat) (h : i < l.length) : rd_T40 l (i : Int) = l[i] := by rw [rdT, getD_get _ h]

theorem lab_in {x : Int} (h : isLabel x = true) : 0 ≤ x ∧ x ≤ 100000 := isLabel_range h

end Go.Proofs.YtamimnaafiphcaaDoor.PR1C
