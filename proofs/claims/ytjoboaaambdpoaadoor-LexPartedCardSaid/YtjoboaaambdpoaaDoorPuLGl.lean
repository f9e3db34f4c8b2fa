/- The law LexGlued, plainly; its contract. -/
import Derived.Test.YtjoboaaambdpoaaDoorPuLBl
import Derived.Test.YtjoboaaambdpoaaDoorPR01x71
set_option linter.unusedVariables false
set_option linter.unusedSimpArgs false
namespace Go.Proofs.YtjoboaaambdpoaaDoor.PR01
open Go.RowKit Go.Proofs.YtjoboaaambdpoaaDoorW.PrintWords Go.Proofs.YtjoboaaambdpoaaDoorW.PrintLast Go.Proofs.YtjoboaaambdpoaaDoorW.PrintMore

theorem lexR_ok (src : ByteArray) (h : (lexR src).2.2 = 0) : src.size ≤ 20000 ∧ (raw src.data.toList).1.length ≤ 3999 ∧ (raw src.data.toList).2.1 = 0 ∧ lexR src = ((raw src.data.toList).1.map (tokS src.size) ++ [endS src.size], 0, 0) := by
  rcases lexR_cases src with ⟨-, h'⟩ | ⟨-, -, h'⟩ | ⟨h1, h2, h3, h'⟩ | ⟨-, -, h3, h'⟩
  · rw [h'] at h; exact absurd h (by decide)
  · rw [h'] at h; exact absurd (show (15 : Int) = 0 from h) (by decide)
  · exact ⟨h1, h2, h3, h'⟩
  · rw [h'] at h; exact absurd h h3

theorem glued_j (k : Nat) (a b : ByteArray) (x y : List S29) : switchbacklaw01_LexGlued.j0 (k + 1) a b x y true = some true := by
  simp only [switchbacklaw01_LexGlued.j0, live_f]
  rfl

theorem glued_t (a b : ByteArray) (x y : List S29) : Ev (fun k => switchbacklaw01_LexGlued.j0 k a b x y true) true := Ev.step (f := fun _ => some true) (fun k => glued_j k a b x y) (Ev.now _)

theorem glued_f (a b : ByteArray) : Ev (fun k => switchbacklaw01_LexGlued.f k a b) true := by
  by_cases ha : (lexR a).2.2 = 0
  rotate_left
  · refine Ev.congr (fun k => ?_) (glued_t a b (lexR a).1 (lexR b).1)
    unfold switchbacklaw01_LexGlued.f lex_Lex.f
    simp only [Option.bind_some, if_neg ha]
  by_cases hb : (lexR b).2.2 = 0
  rotate_left
  · refine Ev.congr (fun k => ?_) (glued_t a b (lexR a).1 (lexR b).1)
    unfold switchbacklaw01_LexGlued.f lex_Lex.f
    simp only [Option.bind_some, if_pos ha, if_neg hb]
  obtain ⟨a1, a2, a3, a4⟩ := lexR_ok a ha
  obtain ⟨b1, b2, b3, b4⟩ := lexR_ok b hb
  have la : ((lexR a).1.length : Int) = (raw a.data.toList).1.length + 1 := by rw [a4]; simp
  have lb : ((lexR b).1.length : Int) = (raw b.data.toList).1.length + 1 := by rw [b4]; simp
  have hna : ¬ ((lexR a).1.length : Int) = 0 := by omega
  have hnb : ¬ ((lexR b).1.length : Int) = 0 := by omega
  have e0 : ∀ k, switchbacklaw01_LexGlued.f k a b = if (a.size : Int) + b.size + 1 > 20000 then switchbacklaw01_LexGlued.j0 k a b (lexR a).1 (lexR b).1 true else switchbacklaw01_LexGlued.j0 k a b (lexR a).1 (lexR b).1 (decide (((lexR a).1.length : Int) + (lexR b).1.length - 1 > 4000)) := by
    intro k
    unfold switchbacklaw01_LexGlued.f lex_Lex.f
    simp only [Option.bind_some, if_pos ha, if_pos hb, if_neg hna, if_neg hnb]
    rw [wrap_i64 (x := (a.size : Int) + b.size) (by omega) (by omega), wrap_i64 (x := (a.size : Int) + b.size + 1) (by omega) (by omega), wrap_i64 (x := ((lexR a).1.length : Int) + (lexR b).1.length) (by omega) (by omega), wrap_i64 (x := ((lexR a).1.length : Int) + (lexR b).1.length - 1) (by omega) (by omega)]
  by_cases h1 : (a.size : Int) + b.size + 1 > 20000
  · exact Ev.congr (fun k => by rw [e0, if_pos h1]) (glued_t a b (lexR a).1 (lexR b).1)
  by_cases h2 : ((lexR a).1.length : Int) + (lexR b).1.length - 1 > 4000
  · exact Ev.congr (fun k => by rw [e0, if_neg h1, decide_eq_true h2]) (glued_t a b (lexR a).1 (lexR b).1)
  obtain ⟨c, hc⟩ : ∃ c, c = (a ++ (⟨#[10]⟩ : ByteArray)) ++ b := ⟨_, rfl⟩
  have hcd : c.data.toList = a.data.toList ++ 10 :: b.data.toList := by
    rw [hc, ByteArray.data_append, Array.toList_append, ByteArray.data_append, Array.toList_append, List.append_assoc]
    rfl
  have hcs : c.size = a.size + 1 + b.size := by
    rw [hc, ByteArray.size_append, ByteArray.size_append]
    rfl
  have hr := raw_glue b.data.toList a.data.toList.length a.data.toList (Nat.le_refl _) a3
  rw [← hcd] at hr
  have c4 : lexR c = ((raw c.data.toList).1.map (tokS c.size) ++ [endS c.size], 0, 0) := by
    unfold lexR
    rw [if_neg (by omega), if_neg (by rw [hr]; simp only [List.length_append, List.length_map]; omega), if_pos (by rw [hr]; exact b3)]
  have hst : (lexR c).1.map strip = ((lexR a).1.take (raw a.data.toList).1.length ++ (lexR b).1).map strip := by
    rw [c4, strip_ok, hr, a4, b4]
    simp only [List.map_append, List.map_map]
    rw [show (raw a.data.toList).1.length = ((raw a.data.toList).1.map (tokS a.size)).length by simp, List.take_left', List.map_map]
    · simp only [List.append_assoc]
      rfl
    · rfl
  have hal := alike_f (lexR c).1 ((lexR a).1.take (raw a.data.toList).1.length ++ (lexR b).1) hst (by have := lexR_len c; omega)
  have step : Ev (fun k => (switchbacklaw01_alike.f k (lexR c).1 ((lexR a).1.take (raw a.data.toList).1.length ++ (lexR b).1)).bind fun t => if t = true then (some true) else some false) true := Ev.bind hal (Ev.now _)
  refine Ev.step (fun k => ?_) step
  rw [e0, if_neg h1, decide_eq_false h2]
  have hla := lexR_len a
  have hlb := lexR_len b
  simp only [switchbacklaw01_LexGlued.j0, live_f]
  rw [if_neg (by decide), if_pos (by omega), if_pos (by rw [ByteArray.size_append]; show a.size + 1 + b.size ≤ _; omega), ← hc]
  unfold lex_Lex.f
  simp only [Option.bind_some]
  rw [wrap_i64 (x := ((lexR a).1.length : Int) - 1) (by omega) (by omega), if_pos (by omega), if_pos (by omega), show (((lexR a).1.length : Int) - 1).toNat = (raw a.data.toList).1.length by omega, List.nil_append]
  rw [if_pos (by simp only [List.length_nil, List.length_take]; omega), if_pos (by simp only [List.length_take]; omega), if_pos (by rw [c4])]

theorem glued_row (a0 a1 : ByteArray) (W : World) (hL : Laid W) :
    Calls Tryd.prog 7 #[.string a0, .string a1] W fun e W' => e = .returned (.bool true) ∧ Below W.heap.size W W' := by
  obtain ⟨k, hk⟩ := (glued_f a0 a1).rounds
  exact switchbacklaw01_LexGlued.calls k a0 a1 true W (Aside0.mk hL) hk

end Go.Proofs.YtjoboaaambdpoaaDoor.PR01
