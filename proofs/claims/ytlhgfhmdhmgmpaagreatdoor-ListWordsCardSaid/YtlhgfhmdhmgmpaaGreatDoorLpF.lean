/- list's law: the answers that the document gives; two constants, plainly. -/
import Derived.Test.YtlhgfhmdhmgmpaaGreatDoorLpE
set_option linter.unusedVariables false
set_option linter.unusedSimpArgs false
namespace Go.Proofs.YtlhgfhmdhmgmpaaGreatDoor
open Go.RowKit

def lvA : List Line := [⟨1, 3, 0, -2, 0, 0, []⟩, ⟨0, 0, 0, 0, 0, 7, []⟩]
def lvB : List Line := [⟨44, 0, 0, 0, 0, 0, []⟩, ⟨40, 0, 0, 0, 0, 0, []⟩]

theorem wf_of (l : Line) (h : l.list = []) (a : -100 ≤ l.a ∧ l.a ≤ 100) (b : -100 ≤ l.b ∧ l.b ≤ 100) (c : -100 ≤ l.imm ∧ l.imm ≤ 100) (d : 0 ≤ l.n ∧ l.n ≤ 100) (e : -100 ≤ l.label ∧ l.label ≤ 100) : WfL l :=
  ⟨by omega, by omega, by omega, by omega, by omega, by omega, by omega, by omega, by omega, by omega, fun x hx => by rw [h] at hx; cases hx⟩

theorem lvA_wf : ∀ l ∈ lvA, WfL l := by
  intro l hl
  simp only [lvA, List.mem_cons, List.not_mem_nil, or_false] at hl
  rcases hl with rfl | rfl <;> exact wf_of _ rfl (by decide) (by decide) (by decide) (by decide) (by decide)
theorem lvB_wf : ∀ l ∈ lvB, WfL l := by
  intro l hl
  simp only [lvB, List.mem_cons, List.not_mem_nil, or_false] at hl
  rcases hl with rfl | rfl <;> exact wf_of _ rfl (by decide) (by decide) (by decide) (by decide) (by decide)

theorem lvA_may : lvA.all mayP = true := by kernel_rfl
theorem lvB_may : lvB.all mayP = true := by kernel_rfl

theorem itoa_small (n : Nat) (h : n < 10) : Lib.itoa (n : Int) = [UInt8.ofNat (48 + n)] := by rw [Lib.itoa_nonneg, Lib.decDigits_one h]

theorem lvA_print : printP lvA = ([76, 73, 32, 82, 51, 32, 45, 50, 10, 76, 55, 58, 10], 0) := by
  unfold printP
  rw [if_neg (by decide), if_pos lvA_may]
  have i3 : Lib.itoa 3 = [51] := itoa_small 3 (by decide)
  have i7 : Lib.itoa 7 = [55] := itoa_small 7 (by decide)
  have i2 : Lib.itoa (-2) = [45, 50] := by
    have := Lib.itoa_neg 2 (by decide)
    rw [Lib.decDigits_one (by decide)] at this
    exact this
  have t1 : textP ⟨1, 3, 0, -2, 0, 0, []⟩ = [76, 73, 32, 82, 51, 32, 45, 50] := by
    show Lib.join [[76, 73], 82 :: Lib.itoa 3, Lib.itoa (-2)] [32] = _
    rw [i3, i2]
    rfl
  have t2 : textP ⟨0, 0, 0, 0, 0, 7, []⟩ = [76, 55, 58] := by
    show (76 :: Lib.itoa 7) ++ [58] = _
    rw [i7]
    rfl
  unfold bodyP lvA
  simp only [List.map_cons, List.map_nil, t1, t2]
  rfl

theorem parse_last (f : Nat) (x : List UInt8) (i : Nat) (acc : List Line) (h : (10 : UInt8) ∉ x) (hx : x ≠ []) :
    parseF (f + 1) (baL x) i acc = match wordsL x with
      | [] => finP acc
      | w :: ws => match lineP (baL w) (ws.map baL) with
        | none => ([], (i : Int), 220)
        | some l => finP (acc ++ [l]) := by
  rw [parseF, if_neg (by rw [baL_size]; simpa using hx), (one_none x h).1, (one_none x h).2, words_list]
  cases wordsL x with
  | nil => exact parseF_end rfl _ _ _
  | cons w ws =>
    simp only [List.map_cons]
    cases lineP (baL w) (ws.map baL) with
    | none => rfl
    | some l => exact parseF_end rfl _ _ _

theorem lvB_one : lineP (baL [82, 69, 84]) ([].map baL) = some ⟨44, 0, 0, 0, 0, 0, []⟩ := by
  obtain ⟨_, x, r, h1, h2⟩ := line_back (l := ⟨44, 0, 0, 0, 0, 0, []⟩) (lvB_wf _ (by simp [lvB])) (by kernel_rfl)
  have t : textP ⟨44, 0, 0, 0, 0, 0, []⟩ = [82, 69, 84] := rfl
  rw [t, show wordsL [82, 69, 84] = [[82, 69, 84]] from rfl] at h1
  injection h1 with h3 h4
  subst h3 h4
  exact h2

theorem lvB_two : lineP (baL [74, 77, 80]) ([[76, 48]].map baL) = some ⟨40, 0, 0, 0, 0, 0, []⟩ := by
  obtain ⟨_, x, r, h1, h2⟩ := line_back (l := ⟨40, 0, 0, 0, 0, 0, []⟩) (lvB_wf _ (by simp [lvB])) (by kernel_rfl)
  have i0 : Lib.itoa 0 = [48] := itoa_small 0 (by decide)
  have t : textP ⟨40, 0, 0, 0, 0, 0, []⟩ = [74, 77, 80, 32, 76, 48] := by
    show Lib.join [[74, 77, 80], 76 :: Lib.itoa 0] [32] = _
    rw [i0]
    rfl
  rw [t, show wordsL [74, 77, 80, 32, 76, 48] = [[74, 77, 80], [76, 48]] from rfl] at h1
  injection h1 with h3 h4
  subst h3 h4
  exact h2

theorem lvB_parse : parseR (baL [32, 82, 69, 84, 32, 59, 32, 115, 111, 10, 10, 74, 77, 80, 9, 76, 48]) = (lvB, 0, 0) := by
  unfold parseR
  rw [baL_size]
  have e1 := parse_line 16 [32, 82, 69, 84, 32, 59, 32, 115, 111] [10, 74, 77, 80, 9, 76, 48] 0 [] (by decide)
  have e2 := parse_line 15 [] [74, 77, 80, 9, 76, 48] 1 [⟨44, 0, 0, 0, 0, 0, []⟩] (by decide)
  have e3 := parse_last 14 [74, 77, 80, 9, 76, 48] 2 [⟨44, 0, 0, 0, 0, 0, []⟩] (by decide) (by decide)
  rw [show wordsL [32, 82, 69, 84, 32, 59, 32, 115, 111] = [[82, 69, 84]] from rfl] at e1
  rw [show wordsL [] = [] from rfl] at e2
  rw [show wordsL [74, 77, 80, 9, 76, 48] = [[74, 77, 80], [76, 48]] from rfl] at e3
  simp only [lvB_one] at e1
  simp only [lvB_two] at e3
  refine (show parseF _ _ 0 [] = _ from e1).trans ((show parseF _ _ _ _ = _ from e2).trans (e3.trans ?_))
  rfl

end Go.Proofs.YtlhgfhmdhmgmpaaGreatDoor
