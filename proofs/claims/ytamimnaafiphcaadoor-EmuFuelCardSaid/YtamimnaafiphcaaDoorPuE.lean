/- What the printed functions of the machine's laws come to, plainly: small ones. -/
import Derived.Test.YtamimnaafiphcaaDoorPR18x21
import Derived.Test.YtamimnaafiphcaaDoorPR18x41
import Derived.Test.YtamimnaafiphcaaDoorPR18x44
import Derived.Test.YtamimnaafiphcaaDoorEmZ4
set_option linter.unusedVariables false
set_option linter.unusedSimpArgs false
namespace Go.Proofs.YtamimnaafiphcaaDoor.PR18
open Go.RowKit Go.Proofs.YtamimnaafiphcaaDoorW.PrintWords Go.Proofs.YtamimnaafiphcaaDoorW.PrintLast Go.Proofs.YtamimnaafiphcaaDoorW.PrintMore

theorem wrap_i64 {x : Int} (h0 : -9223372036854775808 ≤ x) (h1 : x ≤ 9223372036854775807) : wrap64 x = x := by
  unfold wrap64
  omega

theorem pick_f {a n : Int} (h0 : -9223372036854775808 ≤ a) (h1 : a ≤ 9223372036854775807) (hn : 1 ≤ n) : ∃ t, switchbacklaw18_pick.f a n = some t ∧ 0 ≤ t ∧ t < n := by
  unfold switchbacklaw18_pick.f
  by_cases h : a < 0
  · rw [if_pos h, if_neg (by omega)]
    rw [wrap_i64 (x := a + 1) (by omega) (by omega), wrap_i64 (by omega) (by omega)]
    exact ⟨_, rfl, Int.tmod_nonneg _ (by omega), Int.tmod_lt_of_pos _ (by omega)⟩
  · rw [if_neg h, if_neg (by omega)]
    exact ⟨_, rfl, Int.tmod_nonneg _ (by omega), Int.tmod_lt_of_pos _ (by omega)⟩

theorem wf64 {x : Int} (h : (Lit.int .i64 x).wf = true) : -9223372036854775808 ≤ x ∧ x ≤ 9223372036854775807 := by
  have : IntKind.i64.min ≤ x ∧ x ≤ IntKind.i64.max := by simpa [Lit.wf] using h
  exact this

theorem w32s_of {xs : List Int} (h : ∀ x ∈ xs, (Lit.int .u32 x).wf = true) : w32s xs = true := by
  unfold w32s
  rw [List.all_eq_true]
  intro x hx
  have : IntKind.u32.min ≤ x ∧ x ≤ IntKind.u32.max := by simpa [Lit.wf] using h x hx
  have h2 : (0 : Int) ≤ x ∧ x ≤ 4294967295 := this
  rw [Bool.and_eq_true]
  exact ⟨decide_eq_true h2.1, decide_eq_true (by omega)⟩

theorem no_bytes : (⟨#[]⟩ : ByteArray).toList = ([] : List UInt8) := by
  unfold ByteArray.toList
  unfold ByteArray.toList.loop
  rfl

/-- A run of the machine, of the program's own. -/
theorem run_f {W K D : List Int} {e : Int} {s : ByteArray} {F : Int} (h : runErr (mayB W K D e) s.size F = 0) (hW : w32s W = true) (hD : w32s D = true) (hF : F ≤ 1000000) :
    emu_Run.f W K D e s F = some ((runP W F.toNat (mach0 D e s)).2.1, (runP W F.toNat (mach0 D e s)).2.2, strOfNums (runP W F.toNat (mach0 D e s)).1.out, (runP W F.toNat (mach0 D e s)).1.steps, 0) := by
  unfold emu_Run.f
  rw [if_pos h, hW, hD, decide_eq_true hF]
  rfl

theorem run_no {W K D : List Int} {e : Int} {s : ByteArray} {F : Int} (h : runErr (mayB W K D e) s.size F ≠ 0) : emu_Run.f W K D e s F = some (0, 0, (⟨#[]⟩ : ByteArray), 0, runErr (mayB W K D e) s.size F) := by
  unfold emu_Run.f
  rw [if_neg h]

theorem err_fuel {b : Bool} {n : Nat} {F G : Int} (hF : 0 ≤ F ∧ F ≤ 1000000) (hG : 0 ≤ G ∧ G ≤ 1000000) : runErr b n F = runErr b n G := by
  unfold runErr
  rw [if_neg (show ¬ F < 0 by omega), if_neg (show ¬ F > 1073741824 by omega), if_neg (show ¬ G < 0 by omega), if_neg (show ¬ G > 1073741824 by omega)]

theorem err_ok {n : Nat} {F : Int} (hF : 0 ≤ F ∧ F ≤ 1000000) (hn : (n : Int) ≤ 10000) : runErr true n F = 0 := by
  unfold runErr
  rw [if_neg (by decide), if_neg (by omega), if_neg (by omega), if_neg (by omega)]

theorem may_of_err {b : Bool} {n : Nat} {F : Int} (h : runErr b n F = 0) : b = true := by
  cases b
  · unfold runErr at h; rw [if_pos rfl] at h; cases h
  · rfl

theorem may_mk {W K D : List Int} {e : Int} (h1 : 1 ≤ W.length ∧ W.length ≤ 65536) (h2 : D.length ≤ 524288) (h3 : 0 ≤ e ∧ e < W.length) (h4 : K.length = W.length) (h5 : ∀ k ∈ K, 1 ≤ k ∧ k ≤ 3) : mayB W K D e = true := by
  unfold mayB
  simp only [Bool.and_eq_true, Bool.not_eq_true', decide_eq_true_eq, decide_eq_false_iff_not, List.all_eq_true]
  exact ⟨⟨⟨⟨⟨⟨by omega, by omega⟩, h4⟩, by omega⟩, by omega⟩, by omega⟩, fun k hk => by have := h5 k hk; omega⟩

theorem live_f : switchbacklaw18_live.f = some true := by
  have e : emu_Run.f [17825799, 789577728] [1, 1] [] 0 (⟨#[]⟩ : ByteArray) 100 = some (1, 7, strOfNums [], 2, 0) := by
    rw [run_f (by kernel_rfl) (by kernel_rfl) (by kernel_rfl) (by decide)]
    have h : runP [17825799, 789577728] 100 (mach0 [] 0 ⟨#[]⟩) = ({ mach0 [] 0 ⟨#[]⟩ with r := [0, 7, 0, 0, 0, 0, 0, 0, 0, 0, 0, 0], place := 2, steps := 2 }, (1, 7)) := by kernel_rfl
    rw [show (100 : Int).toNat = 100 from rfl, h]
    rfl
  unfold switchbacklaw18_live.f
  rw [e]
  simp only [Option.bind_some]
  rw [show strOfNums [] = (⟨#[]⟩ : ByteArray) from rfl, no_bytes]
  rfl

end Go.Proofs.YtamimnaafiphcaaDoor.PR18
