/- The law LexChars, plainly; its contract. -/
import Derived.Test.YtjoboaaambdpoaaDoorPuLGl
import Derived.Test.YtjoboaaambdpoaaDoorPR01x76
set_option linter.unusedVariables false
set_option linter.unusedSimpArgs false
namespace Go.Proofs.YtjoboaaambdpoaaDoor.PR01
open Go.RowKit Go.Proofs.YtjoboaaambdpoaaDoorW.PrintWords Go.Proofs.YtjoboaaambdpoaaDoorW.PrintLast Go.Proofs.YtjoboaaambdpoaaDoorW.PrintMore

theorem chars_step (b : UInt8) : stepL [39, b, 39] = if (b.toNat = 39 ∨ b.toNat = 10 ∨ b.toNat = 92) then .bad 12 else .tok 3 ⟨2, [], (b.toNat : Int), false⟩ := by
  have hc : charL [39, b, 39] = if (b.toNat = 39 ∨ b.toNat = 10 ∨ b.toNat = 92) then (0, 0) else ((b.toNat : Int), 3) := by
    show charP 3 0 (b.toNat : Int) 39 0 = _
    unfold charP
    by_cases h1 : b.toNat = 39 ∨ b.toNat = 10
    · rw [if_pos (by omega), if_pos (by omega)]
    · rw [if_neg (by omega)]
      by_cases h2 : b.toNat = 92
      · rw [if_neg (by omega), if_pos (by omega), if_pos (by omega)]
      · rw [if_pos (by omega), if_neg (by decide), if_neg (by omega)]
  rw [stepL_of (by simp) rfl (fun h => by have := h.1; simp [gt] at this) (fun h => by have := h.1; simp [gt] at this)]
  unfold tokL
  rw [if_neg (by show ¬ isL 39 = true; decide), if_neg (by show ¬ isD 39 = true; decide), if_pos (show gt [39, b, 39] 0 = 39 from rfl), hc]
  by_cases h : b.toNat = 39 ∨ b.toNat = 10 ∨ b.toNat = 92
  · rw [if_pos h, if_pos h]
    rfl
  · rw [if_neg h, if_neg h]
    rfl

theorem chars_f (a0 : Int) (h0 : 0 ≤ a0) (h1 : a0 ≤ 255) : Ev (fun k => switchbacklaw01_LexChars.f k a0) true := by
  obtain ⟨b, hbd⟩ : ∃ b : UInt8, b = UInt8.ofNat a0.toNat := ⟨_, rfl⟩
  have hbn : (b.toNat : Int) = a0 := by
    rw [hbd, UInt8.toNat_ofNat', Nat.mod_eq_of_lt (by omega)]
    omega
  obtain ⟨s, hs⟩ : ∃ s, s = ((⟨#[39]⟩ : ByteArray) ++ (strOfNums [a0])) ++ (⟨#[39]⟩ : ByteArray) := ⟨_, rfl⟩
  have hz1 : (strOfNums [a0]).size = 1 := by rw [strOfNums_size]; rfl
  have hsd : s.data.toList = [39, b, 39] := by
    rw [hs, ByteArray.data_append, Array.toList_append, ByteArray.data_append, Array.toList_append, strOfNums_data, hbd]
    rfl
  have hss : s.size = 3 := by
    have := congrArg List.length hsd
    rw [Array.length_toList] at this
    exact this
  have hst := chars_step b
  have e0 : ∀ k, switchbacklaw01_LexChars.f k a0 = if a0 = 39 then switchbacklaw01_LexChars.j0 k a0 (lexR s).1 (lexR s).2.1 (lexR s).2.2 true else if a0 = 92 then switchbacklaw01_LexChars.j0 k a0 (lexR s).1 (lexR s).2.1 (lexR s).2.2 true else switchbacklaw01_LexChars.j0 k a0 (lexR s).1 (lexR s).2.1 (lexR s).2.2 (a0 == 10) := by
    intro k
    unfold switchbacklaw01_LexChars.f lex_Lex.f
    simp only [Option.bind_some]
    rw [if_pos (by rw [hz1]; decide), if_pos (by rw [ByteArray.size_append, hz1]; decide), ← hs]
  by_cases h : b.toNat = 39 ∨ b.toNat = 10 ∨ b.toNat = 92
  · rw [if_pos h] at hst
    have hl : lexR s = ([], 0, 12) := lexR_err (acc := []) (j := 0) (e := 12) (by omega) (Nat.zero_le _) (by decide) (Nat.zero_le _) (by rw [hsd, raw_bad hst, hss]; rfl)
    have hj : Ev (fun k => switchbacklaw01_LexChars.j0 k a0 (lexR s).1 (lexR s).2.1 (lexR s).2.2 true) true := by
      refine Ev.step (f := fun _ => some true) (fun k => ?_) (Ev.now _)
      simp only [switchbacklaw01_LexChars.j0, hl, live_f]
      rfl
    refine Ev.congr (fun k => ?_) hj
    rw [e0]
    by_cases h39 : a0 = 39
    · rw [if_pos h39]
    · rw [if_neg h39]
      by_cases h92 : a0 = 92
      · rw [if_pos h92]
      · rw [if_neg h92, show (a0 == 10) = true by rw [beq_iff_eq]; omega]
  · rw [if_neg h] at hst
    have hr : raw s.data.toList = ([(3, ⟨2, [], (b.toNat : Int), false⟩)], 0, 0) := by
      rw [hsd, raw_tok hst]
      rfl
    have hl : lexR s = ([tokS 3 (3, ⟨2, [], a0, false⟩), endS 3], 0, 0) := by
      rw [lexR_end (x := 0) (by omega) (by show 1 ≤ 3999; decide) hr, hss, hbn]
      rfl
    have hj : Ev (fun k => switchbacklaw01_LexChars.j0 k a0 (lexR s).1 (lexR s).2.1 (lexR s).2.2 false) true := by
      refine Ev.step (f := fun _ => some true) (fun k => ?_) (Ev.now _)
      simp only [switchbacklaw01_LexChars.j0, hl, live_f]
      rw [if_neg (by decide), if_pos trivial, if_pos (show (([tokS 3 (3, ⟨2, [], a0, false⟩), endS 3].length : Nat) : Int) = 2 from rfl), if_pos (show (0 : Int) < (([tokS 3 (3, ⟨2, [], a0, false⟩), endS 3].length : Nat) : Int) by show (0 : Int) < 2; decide)]
      rw [if_pos (show (rd_T29 [tokS 3 (3, ⟨2, [], a0, false⟩), endS 3] 0).f3 = a0 % 4294967296 by show a0 = _; omega), if_neg (show ¬ (rd_T29 [tokS 3 (3, ⟨2, [], a0, false⟩), endS 3] 0).f4 = true by show ¬ false = true; decide)]
      rfl
    refine Ev.congr (fun k => ?_) hj
    rw [e0, if_neg (by omega), if_neg (by omega), show (a0 == 10) = false by rw [beq_eq_false_iff_ne]; omega]

theorem chars_row (a0 : Int) (W : World) (hL : Laid W) (w0 : (Lit.int .u8 a0).wf = true) :
    Calls Tryd.prog 10 #[.int .u8 a0] W fun e W' => e = .returned (.bool true) ∧ Below W.heap.size W W' := by
  have hr : 0 ≤ a0 ∧ a0 ≤ 255 := by
    have e1 : IntKind.u8.min = 0 := rfl
    have e2 : IntKind.u8.max = 255 := rfl
    simp [Lit.wf, e1, e2] at w0
    omega
  obtain ⟨k, hk⟩ := (chars_f a0 hr.1 hr.2).rounds
  exact switchbacklaw01_LexChars.calls k a0 true W (Aside0.mk hL) hk

end Go.Proofs.YtjoboaaambdpoaaDoor.PR01
