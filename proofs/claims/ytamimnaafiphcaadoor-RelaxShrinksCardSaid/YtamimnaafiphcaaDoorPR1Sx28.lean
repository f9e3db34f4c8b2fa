/- enc.Decode, given to the print: its plain form and its contract, out of the walk of its real body. -/
import Derived.Test.YtamimnaafiphcaaDoorPR1Sx0
import Derived.Test.YtamimnaafiphcaaDoorEncD
namespace Go.Proofs.YtamimnaafiphcaaDoor.PR1S
open Go.RowKit Go.Proofs.YtamimnaafiphcaaDoorW.PrintWords Go.Proofs.YtamimnaafiphcaaDoorW.PrintLast Go.Proofs.YtamimnaafiphcaaDoorW.PrintMore

/-! ### enc_Decode: function 56 -/
def enc_Decode.f (a0 : Int) : Option (Int × Int × Int × Int × Int) := if 0 ≤ a0 ∧ a0 < 4294967296 then some ((dec a0).1.1, (dec a0).1.2.1, (dec a0).1.2.2.1, (dec a0).1.2.2.2, (dec a0).2) else none

theorem enc_Decode.calls (a0 : Int) (r1 : Int) (r2 : Int) (r3 : Int) (r4 : Int) (r5 : Int) (w : World) (hLaid_ : Aside0 (Laid w)) (h : enc_Decode.f a0 = some (r1, r2, r3, r4, r5)) :
    Calls Tryd.prog 56 #[.int .u32 a0] w fun e w' => e = .returned (.tuple #[.agg #[.int .i64 r1, .int .i64 r2, .int .i64 r3, .int .i64 r4], .int .i64 r5]) ∧ Below w.heap.size w w' := by
  unfold enc_Decode.f at h
  by_cases hw : 0 ≤ a0 ∧ a0 < 4294967296
  · rw [if_pos hw] at h
    simp only [Option.some.injEq, Prod.mk.injEq] at h
    obtain ⟨rfl, rfl, rfl, rfl, rfl⟩ := h
    exact decode_any a0 w hLaid_.out hw.1 hw.2
  · rw [if_neg hw] at h
    cases h

end Go.Proofs.YtamimnaafiphcaaDoor.PR1S
