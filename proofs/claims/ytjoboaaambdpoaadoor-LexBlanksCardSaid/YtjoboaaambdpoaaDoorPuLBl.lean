/- The law LexBlanks, plainly; its contract. -/
import Derived.Test.YtjoboaaambdpoaaDoorPuL0
import Derived.Test.YtjoboaaambdpoaaDoorLxB
import Derived.Test.YtjoboaaambdpoaaDoorPR01x70
set_option linter.unusedVariables false
set_option linter.unusedSimpArgs false
namespace Go.Proofs.YtjoboaaambdpoaaDoor.PR01
open Go.RowKit Go.Proofs.YtjoboaaambdpoaaDoorW.PrintWords Go.Proofs.YtjoboaaambdpoaaDoorW.PrintLast Go.Proofs.YtjoboaaambdpoaaDoorW.PrintMore

theorem strip_map (n : Nat) (ts : List (Nat × T)) : (ts.map (tokS n)).map strip = ts.map (fun p => strip0 p.2) := by
  rw [List.map_map]
  rfl

theorem lexR_blank (b : UInt8) (hb : 9 ≤ b.toNat ∧ b.toNat ≤ 13) (src s2 : ByteArray) (h2 : s2.data.toList = src.data.toList ++ [b]) (hs : src.size < 20000) :
    (lexR s2).2 = (lexR src).2 ∧ (lexR s2).1.map strip = (lexR src).1.map strip := by
  have hz : s2.size = src.size + 1 := by
    have := congrArg List.length h2
    rw [Array.length_toList, List.length_append, Array.length_toList] at this
    exact this
  have hr := raw_blank b hb src.data.toList.length src.data.toList (Nat.le_refl _)
  rw [← h2] at hr
  have hl : (raw s2.data.toList).1.length = (raw src.data.toList).1.length := by rw [hr]; simp
  unfold lexR
  rw [if_neg (show ¬ 20000 < s2.size by omega), if_neg (show ¬ 20000 < src.size by omega), hl]
  by_cases h3 : 3999 < (raw src.data.toList).1.length
  · rw [if_pos h3, if_pos h3]
    refine ⟨?_, rfl⟩
    have : ((raw s2.data.toList).1.getD 3999 (0, ⟨0, [], 0, false⟩)).1 = ((raw src.data.toList).1.getD 3999 (0, ⟨0, [], 0, false⟩)).1 + 1 := by
      rw [hr]
      simp only
      rw [List.getD_eq_getElem?_getD, List.getD_eq_getElem?_getD, List.getElem?_map, List.getElem?_eq_getElem h3]
      rfl
    rw [this, hz]
    simp only [Prod.mk.injEq, and_true]
    congr 1
    omega
  · rw [if_neg h3, if_neg h3, show (raw s2.data.toList).2.1 = (raw src.data.toList).2.1 by rw [hr]]
    by_cases h4 : (raw src.data.toList).2.1 = 0
    · rw [if_pos h4, if_pos h4]
      refine ⟨rfl, ?_⟩
      rw [strip_ok, strip_ok, hr]
      simp only [List.map_map]
      rfl
    · rw [if_neg h4, if_neg h4]
      refine ⟨?_, rfl⟩
      have : (raw s2.data.toList).2.2 = (raw src.data.toList).2.2 + 1 := by rw [hr]; simp only [if_neg h4]
      rw [this, hz]
      simp only [Prod.mk.injEq, and_true]
      congr 1
      omega

theorem lexR_len (src : ByteArray) : (lexR src).1.length ≤ 4000 := by
  rcases lexR_cases src with ⟨-, h⟩ | ⟨-, -, h⟩ | ⟨-, h1, -, h⟩ | ⟨-, -, -, h⟩ <;> rw [h]
  · exact Nat.zero_le _
  · exact Nat.zero_le _
  · simp only [List.length_append, List.length_map, List.length_singleton]
    omega
  · exact Nat.zero_le _

theorem blanks_f (a0 : ByteArray) (a1 : Int) (h0 : 0 ≤ a1) (h1 : a1 ≤ 255) : Ev (fun k => switchbacklaw01_LexBlanks.f k a0 a1) true := by
  unfold switchbacklaw01_LexBlanks.f lex_Lex.f
  simp only [Option.bind_some, live_f]
  by_cases h2 : (a0.size : Int) ≥ 20000
  · simp only [if_pos h2]; exact Ev.now _
  simp only [if_neg h2]
  have hm : Int.tmod a1 5 = a1 % 5 := Int.tmod_eq_emod_of_nonneg h0
  simp only [hm]
  obtain ⟨b, hbd⟩ : ∃ b : UInt8, b = UInt8.ofNat ((9 + a1 % 5) % 256).toNat := ⟨_, rfl⟩
  have hbn : b.toNat = ((9 + a1 % 5) % 256).toNat := by
    rw [hbd, UInt8.toNat_ofNat']
    exact Nat.mod_eq_of_lt (by omega)
  have hb : 9 ≤ b.toNat ∧ b.toNat ≤ 13 := by rw [hbn]; omega
  have hd : (strOfNums [(9 + a1 % 5) % 256]).data.toList = [b] := by rw [strOfNums_data, hbd]; rfl
  have hsz : (strOfNums [(9 + a1 % 5) % 256]).size = 1 := by rw [strOfNums_size]; rfl
  simp only [if_pos (show a0.size + (strOfNums [(9 + a1 % 5) % 256]).size ≤ 9223372036854775807 by rw [hsz]; omega)]
  obtain ⟨s2, hs2⟩ : ∃ s2, s2 = a0 ++ strOfNums [(9 + a1 % 5) % 256] := ⟨_, rfl⟩
  simp only [← hs2]
  have h2d : s2.data.toList = a0.data.toList ++ [b] := by
    rw [hs2, ByteArray.data_append, Array.toList_append, hd]
  obtain ⟨e1, e2⟩ := lexR_blank b hb a0 s2 h2d (by omega)
  have hl := lexR_len a0
  generalize lexR s2 = y at e1 e2
  generalize lexR a0 = x at e1 e2 hl
  obtain ⟨x1, x2, x3⟩ := x
  obtain ⟨y1, y2, y3⟩ := y
  simp only [Prod.mk.injEq] at e1
  obtain ⟨rfl, rfl⟩ := e1
  simp only at e2 hl
  have hj : ∀ v : Bool, Ev (fun k => switchbacklaw01_LexBlanks.j0 k x1 y2 y3 y1 y2 y3 v) true := by
    intro v
    cases v with
    | true => exact Ev.step (f := fun _ => some true) (fun k => by simp only [switchbacklaw01_LexBlanks.j0, live_f]; simp) (Ev.now _)
    | false =>
      refine Ev.step (f := fun k => (switchbacklaw01_alike.f k x1 y1).bind fun t => if t = true then some true else some false) (fun k => by simp only [switchbacklaw01_LexBlanks.j0, live_f]; simp) (Ev.bind (alike_f x1 y1 e2.symm (by omega)) ?_)
      exact Ev.now _
  by_cases h3 : y3 = 12
  · simp only [if_pos h3]; exact hj _
  · simp only [if_neg h3]; exact hj _

theorem blanks_row (a0 : ByteArray) (a1 : Int) (W : World) (hL : Laid W) (w1 : (Lit.int .u8 a1).wf = true) :
    Calls Tryd.prog 6 #[.string a0, .int .u8 a1] W fun e W' => e = .returned (.bool true) ∧ Below W.heap.size W W' := by
  have hr : 0 ≤ a1 ∧ a1 ≤ 255 := by
    have e1 : IntKind.u8.min = 0 := rfl
    have e2 : IntKind.u8.max = 255 := rfl
    simp [Lit.wf, e1, e2] at w1
    omega
  obtain ⟨k, hk⟩ := (blanks_f a0 a1 hr.1 hr.2).rounds
  exact switchbacklaw01_LexBlanks.calls k a0 a1 true W (Aside0.mk hL) hk

end Go.Proofs.YtjoboaaambdpoaaDoor.PR01
