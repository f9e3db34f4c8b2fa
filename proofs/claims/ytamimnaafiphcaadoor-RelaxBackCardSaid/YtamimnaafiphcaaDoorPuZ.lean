/- What the laws' code and Near come to, plainly. -/
import Derived.Test.YtamimnaafiphcaaDoorPuX
import Derived.Test.YtamimnaafiphcaaDoorRxX
import Derived.Test.YtamimnaafiphcaaDoorPR1CZ
set_option linter.unusedVariables false
set_option linter.unusedSimpArgs false
namespace Go.Proofs.YtamimnaafiphcaaDoor.PR1C
open Go.RowKit Go.Proofs.YtamimnaafiphcaaDoorW.PrintWords Go.Proofs.YtamimnaafiphcaaDoorW.PrintLast Go.Proofs.YtamimnaafiphcaaDoorW.PrintMore

theorem near_f (n : Int) : switchbackref17_Near.f n = some (near n) := by
  unfold switchbackref17_Near.f near within
  by_cases h : n ≥ -128
  · rw [if_pos h, decide_eq_true (show (-128 : Int) ≤ n from h), Bool.true_and]
  · rw [if_neg h, decide_eq_false (show ¬ (-128 : Int) ≤ n from h), Bool.false_and]

theorem getD_repl {α : Type} {n i : Nat} {v d : α} (h : i < n) : (List.replicate n v).getD i d = v := by rw [List.getD_eq_getElem?_getD, List.getElem?_replicate, if_pos h]; rfl

theorem rd_int (l : List Int) (p : Int) : rd l p = l.getD p.toNat 0 := by unfold rd; rfl

theorem code_at {W K P : List Int} {R p : Int} {op a b c : Int} (hm : mayR op a b c = true) (h0 : 0 ≤ p) (h1 : p < (W.length : Int)) (hWK : W.length = K.length) (hk : K.getD p.toNat 0 = 1) (hw : W.getD p.toNat 0 = word op a b c) :
    Ev (fun k => switchbacklaw17_code.f k W K P R p) (op, a, b, c, true) := by
  have hr := word_range hm
  have hj : Ev (fun k => switchbacklaw17_code.j0 k p false W K P R) (op, a, b, c, true) := by
    refine Ev.step (f := fun _ => some (op, a, b, c, true)) (fun k => ?_) (Ev.now _)
    simp only [switchbacklaw17_code.j0]
    rw [if_neg (by decide), if_pos h0, if_pos h1, rd_int, hw]
    unfold enc_Decode.f
    rw [if_pos ⟨hr.1, hr.2.1⟩, dec_word hm]
    rfl
  unfold switchbacklaw17_code.f
  simp only [if_neg (show ¬ p < 0 by omega), if_neg (show ¬ p ≥ (W.length : Int) by omega), if_pos h0, if_pos (show p < (K.length : Int) by omega), rd_int, hk]
  exact hj

end Go.Proofs.YtamimnaafiphcaaDoor.PR1C
