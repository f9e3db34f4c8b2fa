-- Written by gp.py for this claim.
import Derived.Test.YtjoboaaambdpoaaDoorPR01x0
import Derived.Test.YtjoboaaambdpoaaDoorPR01x52
import Derived.Test.YtjoboaaambdpoaaDoorPR01x53
import Derived.Test.YtjoboaaambdpoaaDoorPR01x62
namespace Go.Proofs.YtjoboaaambdpoaaDoor.PR01
open Go.RowKit Go.Proofs.YtjoboaaambdpoaaDoorW.PrintWords Go.Proofs.YtjoboaaambdpoaaDoorW.PrintLast Go.Proofs.YtjoboaaambdpoaaDoorW.PrintMore
attribute [local go_sem] max2_int min2_int max_two min_two max_three min_three max_four min_four   -- for this text's walks alone
set_option linter.unusedVariables false
set_option linter.unusedSimpArgs false

namespace q_switchbackref01_Lex
theorem uZ {p : Prop} (h : p) : Aside0 p := ⟨h⟩
theorem uR {p q : Prop} (h : p) (g : p → q := by intro h; (with_reducible repeat (first | apply Kd.R_alloc | apply Kd.R_drewN | apply Kd.R_drew)); exact h) : q := g h
theorem uB {p q : Prop} (h : p) (g : p → q := by intro h; repeat (first | (with_reducible first | exact h | apply below_alloc | apply pw_below_drewN | apply below_drew1) | exact h)) : q := g h
theorem uC {p q s : Prop} (h : p) (j : s) (g : p → s → q := by intro h j; repeat (first | (with_reducible first | exact h | apply below_alloc | apply pw_below_drewN | apply below_drew1 | refine below_set ?_ j) | exact h)) : q := g h j
theorem uA {p : Prop} [Decidable p] (h : decide p = true := by first | (with_reducible assumption) | assumption) : p := of_decide_eq_true h
theorem zA : type_of% @blk_drewN := @blk_drewN
theorem zB : type_of% @blk_drew := @blk_drew
theorem zC : type_of% @blk_alloc := @blk_alloc
theorem zD : type_of% @pw_below_drewN := @pw_below_drewN
theorem zE : type_of% @blk_frozen := @blk_frozen
theorem zF : type_of% @blk_cell := @blk_cell
theorem zG : type_of% @blk_put := @blk_put
theorem zH : type_of% @below_size := @below_size
theorem zI : type_of% @List.map_toArray := @List.map_toArray
theorem zJ : type_of% @List.length_drop := @List.length_drop
theorem zK : type_of% @List.length_take := @List.length_take
end q_switchbackref01_Lex
open q_switchbackref01_Lex

/-! ### switchbackref01_Lex: function 12 -/
def switchbackref01_Lex.l0 : Nat → ByteArray → List (S29) → Int → Option ((List (S29)) × Int × Int)
  | 0, _, _, _ => none
  | k + 1, x0, x5, x6 => if x6 < (x0.size : Int) then (if 0 ≤ x6 then ((switchbackref01_blank.f (Go.Proofs.YtjoboaaambdpoaaDoorW.PrintWords.bt x0 x6)).bind fun t187 => (if t187 = true then (switchbackref01_Lex.l0 k x0 x5 (wrap64 (x6 + 1))) else ((switchbackref01_comment.f k x0 x6).bind fun t188 => (if t188 = (-2) then (some (([] : List (S29)), x6, 13)) else (if t188 ≥ 0 then (switchbackref01_Lex.l0 k x0 x5 t188) else ((switchbackref01_token.f x0 x6).bind fun bt189 => (if bt189.2.2.2.2.2.2 = 0 then (if (x5.length : Int) ≥ 3999 then (some (([] : List (S29)), x6, 15)) else (if x5.length < 3518437208883 then (switchbackref01_Lex.l0 k x0 (x5 ++ [(⟨bt189.1, bt189.2.1, bt189.2.2.1, bt189.2.2.2.1, bt189.2.2.2.2.1⟩ : S29)]) bt189.2.2.2.2.2.1) else (none))) else (some (([] : List (S29)), x6, bt189.2.2.2.2.2.2))))))))) else (none)) else (if x5.length < 3518437208883 then (some ((x5 ++ [(⟨0, (x0.size : Int), (⟨#[]⟩ : ByteArray), 0, false⟩ : S29)]), 0, 0)) else (none))
def switchbackref01_Lex.f (k : Nat) (a0 : ByteArray) : Option ((List (S29)) × Int × Int) := if (a0.size : Int) > 20000 then (some (([] : List (S29)), 0, 2)) else (switchbackref01_Lex.l0 k a0 ([] : List (S29)) 0)
theorem switchbackref01_Lex.mono_l : ∀ k, (∀ y0 y1 y2, LeO (switchbackref01_Lex.l0 k y0 y1 y2) (switchbackref01_Lex.l0 (k + 1) y0 y1 y2))
  | 0 => fun _ _ _ r h => by simp [switchbackref01_Lex.l0] at h
  | k + 1 => by
    have ih0 := switchbackref01_Lex.mono_l k
    · intro y0 y1 y2
      unfold switchbackref01_Lex.l0
      repeat' first
      | (with_reducible exact ih0 _ _ _)
      | (with_reducible exact switchbackref01_comment.mono _ _ _)
      | (with_reducible exact LeO.refl _)
      | (with_reducible exact LeO.none _)
      | (with_reducible refine LeO.ite ?_ ?_)
      | (with_reducible refine LeO.bind ?_ (fun _ => ?_))
      | exact ih0 _ _ _
      | exact switchbackref01_comment.mono _ _ _
      | exact LeO.none _
      | refine LeO.ite ?_ ?_
      | refine LeO.bind ?_ (fun _ => ?_)
theorem switchbackref01_Lex.mono : ∀ a0 k, LeO (switchbackref01_Lex.f k a0) (switchbackref01_Lex.f (k + 1) a0) := by
  intro a0 k
  have ih0 := switchbackref01_Lex.mono_l k
  unfold switchbackref01_Lex.f
  repeat' first
      | (with_reducible exact ih0 _ _ _)
      | (with_reducible exact switchbackref01_comment.mono _ _ _)
      | (with_reducible exact LeO.refl _)
      | (with_reducible exact LeO.none _)
      | (with_reducible refine LeO.ite ?_ ?_)
      | (with_reducible refine LeO.bind ?_ (fun _ => ?_))
      | exact ih0 _ _ _
      | exact switchbackref01_comment.mono _ _ _
      | exact LeO.none _
      | refine LeO.ite ?_ ?_
      | refine LeO.bind ?_ (fun _ => ?_)
set_option maxHeartbeats 8000000 in
set_option maxRecDepth 100000 in
theorem switchbackref01_Lex.calls (k : Nat) (a0 : ByteArray) (r1 : List (S29)) (r2 : Int) (r3 : Int) (w : World) (h : switchbackref01_Lex.f k a0 = some (r1, r2, r3)) :
    Calls Tryd.prog 12 #[.string a0] w fun e w' => ∃ v0_ : Value, e = .returned (.tuple #[v0_, .int .i64 r2, .int .i64 r3]) ∧ Kd.R k29 29 w' w.heap.size (fun _ => True) v0_ r1 ∧ Below w.heap.size w w' := by
 have hu29 := Tryd.underlying29
 have HB := uZ (Below.refl w.heap.size w)
 have H : (if (a0.size : Int) > 20000 then (some (([] : List (S29)), 0, 2)) else (switchbackref01_Lex.l0 k a0 ([] : List (S29)) 0)) = some (r1, r2, r3) := h
 clear h
 by_cases c2 : (a0.size : Int) > 20000
 ·rw [if_pos c2] at H
  have c2b0 : decide (20000 < (a0.size : Int)) = true := decide_eq_true c2
  have c2b1 : decide (20000 < a0.size) = true := decide_eq_true (by omega)
  clear c2
  simp only [Option.some.injEq, Prod.mk.injEq] at H
  obtain ⟨rfl, rfl, rfl⟩ := H
  go_enter Tryd.func12, Tryd.ntmps12
  go_wp2
  go_ret3
  exact ⟨_, by first | rfl | (simp [errW_none, errW_some] <;> rfl) | (simp [*, errW_none, errW_some] <;> rfl), by first | exact Kd.R_nil _ _ _ _ _ | exact Kd.N_nil _ _ _ _ _ | exact Kd.V_nil _ _ _ _ _ | exact Kd.Q_nil _ _ _ _ _ | exact Kd.S_nil _ _ _ _ _, by repeat (first | (with_reducible first | exact HB.out | apply below_alloc | apply zD | apply below_drew1) | exact HB.out)⟩
 rw [if_neg c2] at H
 have c2b0 : decide (20000 < (a0.size : Int)) = false := decide_eq_false c2
 have c2b1 : decide (20000 < a0.size) = false := decide_eq_false (by omega)
 clear c2
 have H' := uZ H
 clear H
 go_enter Tryd.func12, Tryd.ntmps12
 go_wp2
 go_loopg [5, 6] k (fun kq v5 v6 w' => ∃ (a5 : List (S29)) (a1 : Int), v6 = .int .i64 a1 ∧ Aside0 (switchbackref01_Lex.l0 kq a0 a5 a1 = some (r1, r2, r3)) ∧ Aside0 (kq ≤ k) ∧ Aside0 (Kd.R k29 29 w' w.heap.size (fun _ => True) v5 a5) ∧ Aside0 (Below w.heap.size w w'))
 case atStart => exact ⟨(([] : List (S29))), (0), (by first | rfl | (simp; done) | (simp [*]; done)), H', ⟨Nat.le_refl _⟩, ⟨by first | exact Kd.R_nil _ _ _ _ _ | exact Kd.N_nil _ _ _ _ _ | exact Kd.V_nil _ _ _ _ _ | exact Kd.Q_nil _ _ _ _ _ | exact Kd.S_nil _ _ _ _ _⟩, ⟨uB HB.out⟩⟩
 case round =>
  clear H'
  try clear c1
  try clear c2
  try clear c2b0
  try clear c2b1
  try clear p2
  obtain ⟨a5, a1, rfl, HA, HK1, a4, HB⟩ := hrel
  cases gk with
  | zero => exact absurd HA.out (by simp [switchbackref01_Lex.l0])
  | succ k1 =>
   have H := HA.out
   clear HA
   simp only [switchbackref01_Lex.l0] at H
   by_cases c3 : a1 < (a0.size : Int)
   ·rw [if_pos c3] at H
    have c3b0 : decide (a1 < (a0.size : Int)) = true := decide_eq_true c3
    clear c3
    by_cases c4 : 0 ≤ a1
    ·rw [if_pos c4] at H
     have c4b0 : decide (0 ≤ a1) = true := decide_eq_true c4
     clear c4
     replace H := Option.bind_eq_some_iff.mp H
     obtain ⟨t187, A60, H⟩ := H
     replace H : (if t187 = true then (switchbackref01_Lex.l0 k1 a0 a5 (wrap64 (a1 + 1))) else ((switchbackref01_comment.f k1 a0 a1).bind fun a7 => (if a7 = (-2) then (some (([] : List (S29)), a1, 13)) else (if a7 ≥ 0 then (switchbackref01_Lex.l0 k1 a0 a5 a7) else ((switchbackref01_token.f a0 a1).bind fun a6 => (if a6.2.2.2.2.2.2 = 0 then (if (a5.length : Int) ≥ 3999 then (some (([] : List (S29)), a1, 15)) else (if a5.length < 3518437208883 then (switchbackref01_Lex.l0 k1 a0 (a5 ++ [(⟨a6.1, a6.2.1, a6.2.2.1, a6.2.2.2.1, a6.2.2.2.2.1⟩ : S29)]) a6.2.2.2.2.2.1) else (none))) else (some (([] : List (S29)), a1, a6.2.2.2.2.2.2)))))))) = some (r1, r2, r3) := H
     have A6 := uZ A60
     clear A60
     by_cases c7 : t187 = true
     ·subst c7
      have H1 : (switchbackref01_Lex.l0 k1 a0 a5 (wrap64 (a1 + 1))) = some (r1, r2, r3) := by rw [if_pos rfl] at H; exact H
      clear H
      have H := H1
      clear H1
      have H' := uZ H
      clear H
      have p5 : 0 ≤ (a1 : Int) := uA
      have q5 : a1 < (a0.size : Int) := uA
      have hx5 := bt_at a0 a1
      replace p5 := eq_true p5
      replace q5 := eq_true q5
      go_wp2_with (first | ((with_reducible refine gate_callee (f := 20) rfl ?_); refine goesL_ (some 21) rfl rfl Tryd.func20 (by kernel_rfl) rfl #[.int .u8 (Go.Proofs.YtjoboaaambdpoaaDoorW.PrintWords.bt a0 a1)] rfl (by (try simp only [zI, List.map_cons, List.map_nil]); first | done | rfl | (simp only [zJ, zK]; rfl)) ?_; (with_reducible refine (switchbackref01_blank.calls (Go.Proofs.YtjoboaaambdpoaaDoorW.PrintWords.bt a0 a1) true _ A6.out).mono ?_); rintro e w' ⟨rfl, ⟨nd, rfl⟩⟩; refine ⟨_, rfl, ?_⟩))
      go_roundg k1
      case measure => have := HK1.out; omega
      case rel => exact ⟨(a5), (wrap64 (a1 + 1)), (by first | rfl | (simp; done) | (simp [*]; done)), H', ⟨by have := HK1.out; omega⟩, ⟨uR a4.out⟩, ⟨uB HB.out⟩⟩
     replace c7 := Bool.eq_false_iff.mpr c7
     subst c7
     have H1 : ((switchbackref01_comment.f k1 a0 a1).bind fun a7 => (if a7 = (-2) then (some (([] : List (S29)), a1, 13)) else (if a7 ≥ 0 then (switchbackref01_Lex.l0 k1 a0 a5 a7) else ((switchbackref01_token.f a0 a1).bind fun a6 => (if a6.2.2.2.2.2.2 = 0 then (if (a5.length : Int) ≥ 3999 then (some (([] : List (S29)), a1, 15)) else (if a5.length < 3518437208883 then (switchbackref01_Lex.l0 k1 a0 (a5 ++ [(⟨a6.1, a6.2.1, a6.2.2.1, a6.2.2.2.1, a6.2.2.2.2.1⟩ : S29)]) a6.2.2.2.2.2.1) else (none))) else (some (([] : List (S29)), a1, a6.2.2.2.2.2.2))))))) = some (r1, r2, r3) := by rw [if_neg (show ¬ (false = true) by decide)] at H; exact H
     clear H
     have H := H1
     clear H1
     replace H := Option.bind_eq_some_iff.mp H
     obtain ⟨a7, A80, H⟩ := H
     replace H : (if a7 = (-2) then (some (([] : List (S29)), a1, 13)) else (if a7 ≥ 0 then (switchbackref01_Lex.l0 k1 a0 a5 a7) else ((switchbackref01_token.f a0 a1).bind fun a6 => (if a6.2.2.2.2.2.2 = 0 then (if (a5.length : Int) ≥ 3999 then (some (([] : List (S29)), a1, 15)) else (if a5.length < 3518437208883 then (switchbackref01_Lex.l0 k1 a0 (a5 ++ [(⟨a6.1, a6.2.1, a6.2.2.1, a6.2.2.2.1, a6.2.2.2.2.1⟩ : S29)]) a6.2.2.2.2.2.1) else (none))) else (some (([] : List (S29)), a1, a6.2.2.2.2.2.2)))))) = some (r1, r2, r3) := H
     have A8 := uZ A80
     clear A80
     by_cases c9 : a7 = (-2)
     ·rw [if_pos c9] at H
      have c9b0 : (a7 == (-2)) = true := beq_iff_eq.mpr c9
      have c9b1 : (a7 != (-2)) = false := bne_eq_false_iff_eq.mpr c9
      clear c9
      simp only [Option.some.injEq, Prod.mk.injEq] at H
      obtain ⟨rfl, rfl, rfl⟩ := H
      have p5 : 0 ≤ (a1 : Int) := uA
      have q5 : a1 < (a0.size : Int) := uA
      have hx5 := bt_at a0 a1
      replace p5 := eq_true p5
      replace q5 := eq_true q5
      go_wp2_with (first | ((with_reducible refine gate_callee (f := 20) rfl ?_); refine goesL_ (some 21) rfl rfl Tryd.func20 (by kernel_rfl) rfl #[.int .u8 (Go.Proofs.YtjoboaaambdpoaaDoorW.PrintWords.bt a0 a1)] rfl (by (try simp only [zI, List.map_cons, List.map_nil]); first | done | rfl | (simp only [zJ, zK]; rfl)) ?_; (with_reducible refine (switchbackref01_blank.calls (Go.Proofs.YtjoboaaambdpoaaDoorW.PrintWords.bt a0 a1) false _ A6.out).mono ?_); rintro e w' ⟨rfl, ⟨nd, rfl⟩⟩; refine ⟨_, rfl, ?_⟩) | ((with_reducible refine gate_callee (f := 21) rfl ?_); refine goesL_ (some 26) rfl rfl Tryd.func21 (by kernel_rfl) rfl #[.string a0, .int .i64 a1] rfl (by (try simp only [zI, List.map_cons, List.map_nil]); first | done | rfl | (simp only [zJ, zK]; rfl)) ?_; (with_reducible refine (switchbackref01_comment.calls k1 a0 a1 a7 _ A8.out).mono ?_); rintro e w' ⟨rfl, ⟨nd, rfl⟩⟩; refine ⟨_, rfl, ?_⟩))
      go_ret3
      exact ⟨_, by first | rfl | (simp [errW_none, errW_some] <;> rfl) | (simp [*, errW_none, errW_some] <;> rfl), by first | exact Kd.R_nil _ _ _ _ _ | exact Kd.N_nil _ _ _ _ _ | exact Kd.V_nil _ _ _ _ _ | exact Kd.Q_nil _ _ _ _ _ | exact Kd.S_nil _ _ _ _ _, by repeat (first | (with_reducible first | exact HB.out | apply below_alloc | apply zD | apply below_drew1) | exact HB.out)⟩
     rw [if_neg c9] at H
     have c9b0 : (a7 == (-2)) = false := beq_eq_false_iff_ne.mpr c9
     have c9b1 : (a7 != (-2)) = true := bne_iff_ne.mpr c9
     by_cases c10 : a7 ≥ 0
     ·rw [if_pos c10] at H
      have c10b0 : decide (0 ≤ a7) = true := decide_eq_true c10
      clear c10
      have H' := uZ H
      clear H
      have p5 : 0 ≤ (a1 : Int) := uA
      have q5 : a1 < (a0.size : Int) := uA
      have hx5 := bt_at a0 a1
      replace p5 := eq_true p5
      replace q5 := eq_true q5
      go_wp2_with (first | ((with_reducible refine gate_callee (f := 20) rfl ?_); refine goesL_ (some 21) rfl rfl Tryd.func20 (by kernel_rfl) rfl #[.int .u8 (Go.Proofs.YtjoboaaambdpoaaDoorW.PrintWords.bt a0 a1)] rfl (by (try simp only [zI, List.map_cons, List.map_nil]); first | done | rfl | (simp only [zJ, zK]; rfl)) ?_; (with_reducible refine (switchbackref01_blank.calls (Go.Proofs.YtjoboaaambdpoaaDoorW.PrintWords.bt a0 a1) false _ A6.out).mono ?_); rintro e w' ⟨rfl, ⟨nd, rfl⟩⟩; refine ⟨_, rfl, ?_⟩) | ((with_reducible refine gate_callee (f := 21) rfl ?_); refine goesL_ (some 26) rfl rfl Tryd.func21 (by kernel_rfl) rfl #[.string a0, .int .i64 a1] rfl (by (try simp only [zI, List.map_cons, List.map_nil]); first | done | rfl | (simp only [zJ, zK]; rfl)) ?_; (with_reducible refine (switchbackref01_comment.calls k1 a0 a1 a7 _ A8.out).mono ?_); rintro e w' ⟨rfl, ⟨nd, rfl⟩⟩; refine ⟨_, rfl, ?_⟩))
      go_roundg k1
      case measure => have := HK1.out; omega
      case rel => exact ⟨(a5), (a7), (by first | rfl | (simp; done) | (simp [*]; done)), H', ⟨by have := HK1.out; omega⟩, ⟨uR a4.out⟩, ⟨uB HB.out⟩⟩
     rw [if_neg c10] at H
     have c10b0 : decide (0 ≤ a7) = false := decide_eq_false c10
     clear c10
     replace H := Option.bind_eq_some_iff.mp H
     obtain ⟨⟨a8, a9, aa, t192, t193, t194, t195⟩, A110, H⟩ := H
     replace H : (if t195 = 0 then (if (a5.length : Int) ≥ 3999 then (some (([] : List (S29)), a1, 15)) else (if a5.length < 3518437208883 then (switchbackref01_Lex.l0 k1 a0 (a5 ++ [(⟨a8, a9, aa, t192, t193⟩ : S29)]) t194) else (none))) else (some (([] : List (S29)), a1, t195))) = some (r1, r2, r3) := H
     have A11 := uZ A110
     clear A110
     by_cases c12 : t195 = 0
     ·rw [if_pos c12] at H
      have c12b0 : (t195 == 0) = true := beq_iff_eq.mpr c12
      have c12b1 : (t195 != 0) = false := bne_eq_false_iff_eq.mpr c12
      clear c12
      by_cases c13 : (a5.length : Int) ≥ 3999
      ·rw [if_pos c13] at H
       have c13b0 : decide (3999 ≤ (a5.length : Int)) = true := decide_eq_true c13
       have c13b1 : decide (3999 ≤ a5.length) = true := decide_eq_true (by omega)
       clear c13
       simp only [Option.some.injEq, Prod.mk.injEq] at H
       obtain ⟨rfl, rfl, rfl⟩ := H
       have p5 : 0 ≤ (a1 : Int) := uA
       have q5 : a1 < (a0.size : Int) := uA
       have hx5 := bt_at a0 a1
       replace p5 := eq_true p5
       replace q5 := eq_true q5
       go_wp2_with (first | ((with_reducible refine gate_callee (f := 20) rfl ?_); refine goesL_ (some 21) rfl rfl Tryd.func20 (by kernel_rfl) rfl #[.int .u8 (Go.Proofs.YtjoboaaambdpoaaDoorW.PrintWords.bt a0 a1)] rfl (by (try simp only [zI, List.map_cons, List.map_nil]); first | done | rfl | (simp only [zJ, zK]; rfl)) ?_; (with_reducible refine (switchbackref01_blank.calls (Go.Proofs.YtjoboaaambdpoaaDoorW.PrintWords.bt a0 a1) false _ A6.out).mono ?_); rintro e w' ⟨rfl, ⟨nd, rfl⟩⟩; refine ⟨_, rfl, ?_⟩; (try (rw [drewN_self wr]; generalize hq_ : World.drewN wr _ = wr; have n0_ : Aside0 (Kd.R k29 29 wr w.heap.size (fun _ => True) u5 a5) := ⟨by rw [← hq_]; exact (uR a4.out)⟩; have n1_ : Aside0 (Below w.heap.size w wr) := ⟨by rw [← hq_]; exact (uB HB.out)⟩; clear a4 HB hq_; have a4 := n0_; have HB := n1_; clear n0_ n1_))) | ((with_reducible refine gate_callee (f := 21) rfl ?_); refine goesL_ (some 26) rfl rfl Tryd.func21 (by kernel_rfl) rfl #[.string a0, .int .i64 a1] rfl (by (try simp only [zI, List.map_cons, List.map_nil]); first | done | rfl | (simp only [zJ, zK]; rfl)) ?_; (with_reducible refine (switchbackref01_comment.calls k1 a0 a1 a7 _ A8.out).mono ?_); rintro e w' ⟨rfl, ⟨nd, rfl⟩⟩; refine ⟨_, rfl, ?_⟩; (try (rw [drewN_self wr]; generalize hq_ : World.drewN wr _ = wr; have n0_ : Aside0 (Kd.R k29 29 wr w.heap.size (fun _ => True) u5 a5) := ⟨by rw [← hq_]; exact (uR a4.out)⟩; have n1_ : Aside0 (Below w.heap.size w wr) := ⟨by rw [← hq_]; exact (uB HB.out)⟩; clear a4 HB hq_; have a4 := n0_; have HB := n1_; clear n0_ n1_))) | ((with_reducible refine gate_callee (f := 22) rfl ?_); refine goesL_ (some 36) rfl rfl Tryd.func22 (by kernel_rfl) rfl #[.string a0, .int .i64 a1] rfl (by (try simp only [zI, List.map_cons, List.map_nil]); first | done | rfl | (simp only [zJ, zK]; rfl)) ?_; (with_reducible refine (switchbackref01_token.calls a0 a1 a8 a9 aa t192 t193 t194 t195 _ A11.out).mono ?_); rintro e w14 ⟨rfl, hb⟩; refine ⟨_, rfl, ?_⟩; have n0_ := uZ (Kd.R_below (uR a4.out) hb); have n1_ := uZ (below_step (uB HB.out) hb); clear a4; clear HB; have a4 := n0_; have HB := n1_; clear n0_ n1_; (try clear hb); (try clear hb2); (try clear hk); (try clear hi)) | ((with_reducible refine gate_dst (N := 8) rfl ?_); refine box_event ?hg (N := 8) ?hd (cs := #[.int .i64 0, .int .i64 0, .string (⟨#[]⟩ : ByteArray), .int .u32 0, .bool false]) (t := 29) ?hr ?_; (case hd => rfl); (case hg => rfl); (case hr => first | (go_simp; done) | (go_simp; rfl)); intro a3 hg w15 hbox hb; have n0_ := uZ (Kd.R_below (Kd.R_elderB (uR a4.out) a3 (Nat.le_of_eq hg.symm)) hb); have n1_ := uZ (below_step (uB HB.out) hb); have n2_ := uZ (hbox); have n3_ := uZ ((by rw [hg]; exact (zH (uB HB.out)) : w.heap.size ≤ a3)); have n4_ := uZ ((by rw [hg]; exact (zH (uB HB.out)) : w.heap.size ≤ a3)); clear a4; clear HB; have a4 := n0_; have HB := n1_; have a2 := n2_; have GW196 := n3_; have GE196 := n4_; clear n0_ n1_ n2_ n3_ n4_; clear hb hbox hg; have hcz16_0 : w15.cell? ⟨a3, 0, none⟩ = some (.int .i64 0) := (zF a2.out 0).trans rfl; have hcz16_1 : w15.cell? ⟨a3, 1, none⟩ = some (.int .i64 0) := (zF a2.out 1).trans rfl; have hcz16_2 : w15.cell? ⟨a3, 2, none⟩ = some (.string (⟨#[]⟩ : ByteArray)) := (zF a2.out 2).trans rfl; have hcz16_3 : w15.cell? ⟨a3, 3, none⟩ = some (.int .u32 0) := (zF a2.out 3).trans rfl; have hcz16_4 : w15.cell? ⟨a3, 4, none⟩ = some (.bool false) := (zF a2.out 4).trans rfl; have hfz16_0 := zE a2.out 0; have hfz16_1 := zE a2.out 1; have hfz16_2 := zE a2.out 2; have hfz16_3 := zE a2.out 3; have hfz16_4 := zE a2.out 4; obtain ⟨Ao17, co17, eo17⟩ := Kd.R_slice a4.out; subst eo17))
       go_ret3
       exact ⟨_, by first | rfl | (simp [errW_none, errW_some] <;> rfl) | (simp [*, errW_none, errW_some] <;> rfl), by first | exact Kd.R_nil _ _ _ _ _ | exact Kd.N_nil _ _ _ _ _ | exact Kd.V_nil _ _ _ _ _ | exact Kd.Q_nil _ _ _ _ _ | exact Kd.S_nil _ _ _ _ _, by repeat (first | (with_reducible first | exact HB.out | apply below_alloc | apply zD | apply below_drew1 | refine below_set ?_ GE196.out) | exact HB.out)⟩
      rw [if_neg c13] at H
      have c13b0 : decide (3999 ≤ (a5.length : Int)) = false := decide_eq_false c13
      have c13b1 : decide (3999 ≤ a5.length) = false := decide_eq_false (by omega)
      clear c13
      by_cases c18 : a5.length < 3518437208883
      ·rw [if_pos c18] at H
       have LMc18 := uZ c18
       clear c18
       obtain ⟨y197, hy197⟩ : ∃ y_ : List (S29), y_ = (a5 ++ [(⟨a8, a9, aa, t192, t193⟩ : S29)]) := ⟨_, rfl⟩
       replace H : (switchbackref01_Lex.l0 k1 a0 y197 t194) = some (r1, r2, r3) := by first | (rw [hy197]; with_reducible exact H) | (have H2_ := (Option.bind_some _ _).symm.trans H; rw [hy197]; with_reducible exact H2_) | (have H2_ := (Option.bind_some _ _).symm.trans H; with_reducible exact H2_) | with_reducible exact H | (rw [hy197]; exact H) | exact H
       have Ny197 := uZ hy197
       clear hy197
       have H' := uZ H
       clear H
       have p5 : 0 ≤ (a1 : Int) := uA
       have q5 : a1 < (a0.size : Int) := uA
       have hx5 := bt_at a0 a1
       replace p5 := eq_true p5
       replace q5 := eq_true q5
       go_wp2_with (first | ((with_reducible refine gate_callee (f := 20) rfl ?_); refine goesL_ (some 21) rfl rfl Tryd.func20 (by kernel_rfl) rfl #[.int .u8 (Go.Proofs.YtjoboaaambdpoaaDoorW.PrintWords.bt a0 a1)] rfl (by (try simp only [zI, List.map_cons, List.map_nil]); first | done | rfl | (simp only [zJ, zK]; rfl)) ?_; (with_reducible refine (switchbackref01_blank.calls (Go.Proofs.YtjoboaaambdpoaaDoorW.PrintWords.bt a0 a1) false _ A6.out).mono ?_); rintro e w' ⟨rfl, ⟨nd, rfl⟩⟩; refine ⟨_, rfl, ?_⟩; (try (rw [drewN_self wr]; generalize hq_ : World.drewN wr _ = wr; have n0_ : Aside0 (Kd.R k29 29 wr w.heap.size (fun _ => True) u5 a5) := ⟨by rw [← hq_]; exact (uR a4.out)⟩; have n1_ : Aside0 (Below w.heap.size w wr) := ⟨by rw [← hq_]; exact (uB HB.out)⟩; clear a4 HB hq_; have a4 := n0_; have HB := n1_; clear n0_ n1_))) | ((with_reducible refine gate_callee (f := 21) rfl ?_); refine goesL_ (some 26) rfl rfl Tryd.func21 (by kernel_rfl) rfl #[.string a0, .int .i64 a1] rfl (by (try simp only [zI, List.map_cons, List.map_nil]); first | done | rfl | (simp only [zJ, zK]; rfl)) ?_; (with_reducible refine (switchbackref01_comment.calls k1 a0 a1 a7 _ A8.out).mono ?_); rintro e w' ⟨rfl, ⟨nd, rfl⟩⟩; refine ⟨_, rfl, ?_⟩; (try (rw [drewN_self wr]; generalize hq_ : World.drewN wr _ = wr; have n0_ : Aside0 (Kd.R k29 29 wr w.heap.size (fun _ => True) u5 a5) := ⟨by rw [← hq_]; exact (uR a4.out)⟩; have n1_ : Aside0 (Below w.heap.size w wr) := ⟨by rw [← hq_]; exact (uB HB.out)⟩; clear a4 HB hq_; have a4 := n0_; have HB := n1_; clear n0_ n1_))) | ((with_reducible refine gate_callee (f := 22) rfl ?_); refine goesL_ (some 36) rfl rfl Tryd.func22 (by kernel_rfl) rfl #[.string a0, .int .i64 a1] rfl (by (try simp only [zI, List.map_cons, List.map_nil]); first | done | rfl | (simp only [zJ, zK]; rfl)) ?_; (with_reducible refine (switchbackref01_token.calls a0 a1 a8 a9 aa t192 t193 t194 t195 _ A11.out).mono ?_); rintro e w19 ⟨rfl, hb⟩; refine ⟨_, rfl, ?_⟩; have n0_ := uZ (Kd.R_below (uR a4.out) hb); have n1_ := uZ (below_step (uB HB.out) hb); clear a4; clear HB; have a4 := n0_; have HB := n1_; clear n0_ n1_; (try clear hb); (try clear hb2); (try clear hk); (try clear hi)) | ((with_reducible refine gate_dst (N := 8) rfl ?_); refine box_event ?hg (N := 8) ?hd (cs := #[.int .i64 0, .int .i64 0, .string (⟨#[]⟩ : ByteArray), .int .u32 0, .bool false]) (t := 29) ?hr ?_; (case hd => rfl); (case hg => rfl); (case hr => first | (go_simp; done) | (go_simp; rfl)); intro a3 hg w20 hbox hb; have n0_ := uZ (Kd.R_below (Kd.R_elderB (uR a4.out) a3 (Nat.le_of_eq hg.symm)) hb); have n1_ := uZ (below_step (uB HB.out) hb); have n2_ := uZ (hbox); have n3_ := uZ ((by rw [hg]; exact (zH (uB HB.out)) : w.heap.size ≤ a3)); have n4_ := uZ ((by rw [hg]; exact (zH (uB HB.out)) : w.heap.size ≤ a3)); clear a4; clear HB; have a4 := n0_; have HB := n1_; have a2 := n2_; have GW196 := n3_; have GE196 := n4_; clear n0_ n1_ n2_ n3_ n4_; clear hb hbox hg; have hcz21_0 : w20.cell? ⟨a3, 0, none⟩ = some (.int .i64 0) := (zF a2.out 0).trans rfl; have hcz21_1 : w20.cell? ⟨a3, 1, none⟩ = some (.int .i64 0) := (zF a2.out 1).trans rfl; have hcz21_2 : w20.cell? ⟨a3, 2, none⟩ = some (.string (⟨#[]⟩ : ByteArray)) := (zF a2.out 2).trans rfl; have hcz21_3 : w20.cell? ⟨a3, 3, none⟩ = some (.int .u32 0) := (zF a2.out 3).trans rfl; have hcz21_4 : w20.cell? ⟨a3, 4, none⟩ = some (.bool false) := (zF a2.out 4).trans rfl; have hfz21_0 := zE a2.out 0; have hfz21_1 := zE a2.out 1; have hfz21_2 := zE a2.out 2; have hfz21_3 := zE a2.out 3; have hfz21_4 := zE a2.out 4; obtain ⟨Ao22, co22, eo22⟩ := Kd.R_slice a4.out; subst eo22) | ((with_reducible refine gate_builtin (b := .append) (xs := #[.tmp 48, .tmp 50]) rfl ?_); at_builtin; refine Kd.R_append k29 (w0 := w) w.heap.size rfl (.tmp 48) (.tmp 50) 22 29 (.agg #[(.int .i64 0), (.int .i64 0), (.string ⟨#[]⟩), (.int .u32 0), (.bool false)]) 40 rfl Tryd.underlying22 info29 rfl (by decide) (by omega) (.slice Ao22 a5.length co22) a5 (⟨a8, a9, aa, t192, t193⟩ : S29) [.int .i64 a8, .int .i64 a9, .string aa, .int .u32 t192, .bool t193] (fun k_ => k_ ≠ a3) (fun _ => False) rfl (by first | (go_simp; done) | (go_simp; rfl)) ?aP (fun _ hk => hk.elim) ?aF ?aO ?aB ?aS ?aL ?_; (case aP => exact k29_mkM _ _ _ (⟨a8, a9, aa, t192, t193⟩ : S29)); (case aB => exact (uC HB.out GE196.out)); (case aF => exact (fun k_ hk => Kd.freshB (g := a3) (o := .cells #[.int .i64 a8, .int .i64 a9, .string aa, .int .u32 t192, .bool t193] 29 (0, 0)) (by (with_reducible repeat (first | apply zA | apply zB | apply zC)); refine zG (cs := #[.int .i64 a8, .int .i64 a9, .string aa, .int .u32 t192, .bool false]) ?_ 4 _ rfl; (with_reducible repeat (first | apply zA | apply zB | apply zC)); refine zG (cs := #[.int .i64 a8, .int .i64 a9, .string aa, .int .u32 0, .bool false]) ?_ 3 _ rfl; (with_reducible repeat (first | apply zA | apply zB | apply zC)); refine zG (cs := #[.int .i64 a8, .int .i64 a9, .string (⟨#[]⟩ : ByteArray), .int .u32 0, .bool false]) ?_ 2 _ rfl; (with_reducible repeat (first | apply zA | apply zB | apply zC)); refine zG (cs := #[.int .i64 a8, .int .i64 0, .string (⟨#[]⟩ : ByteArray), .int .u32 0, .bool false]) ?_ 1 _ rfl; (with_reducible repeat (first | apply zA | apply zB | apply zC)); refine zG (cs := #[.int .i64 0, .int .i64 0, .string (⟨#[]⟩ : ByteArray), .int .u32 0, .bool false]) ?_ 0 _ rfl; (with_reducible repeat (first | apply zA | apply zB | apply zC)); exact a2.out) k_ hk)); (case aO => exact (by (with_reducible repeat (first | apply Kd.R_alloc | apply Kd.R_drewN | apply Kd.R_drew)); exact Kd.R_mono (Kd.R_far (p := ⟨a3, 4, none⟩) (Kd.R_far (p := ⟨a3, 3, none⟩) (Kd.R_far (p := ⟨a3, 2, none⟩) (Kd.R_far (p := ⟨a3, 1, none⟩) (Kd.R_far (p := ⟨a3, 0, none⟩) (Kd.R_mono a4.out (fun k_ hk => (⟨hk, hk.2⟩ : _ ∧ k_ ≠ a3))) (fun _ hk => hk.2) (.int .i64 a8)) (fun _ hk => hk.2) (.int .i64 a9)) (fun _ hk => hk.2) (.string aa)) (fun _ hk => hk.2) (.int .u32 t192)) (fun _ hk => hk.2) (.bool t193)) (fun _ hk => hk.1.2))); (case aS => exact (zH (uC HB.out GE196.out))); (case aL => have := LMc18.out; omega); intro v198 w23 ho hb hg hat; rw [← Ny197.out] at ho; have n0_ := uZ (blk_grown (g := a3) (o := .cells #[.int .i64 a8, .int .i64 a9, .string aa, .int .u32 t192, .bool t193] 29 (0, 0)) (by (with_reducible repeat (first | apply zA | apply zB | apply zC)); refine zG (cs := #[.int .i64 a8, .int .i64 a9, .string aa, .int .u32 t192, .bool false]) ?_ 4 _ rfl; (with_reducible repeat (first | apply zA | apply zB | apply zC)); refine zG (cs := #[.int .i64 a8, .int .i64 a9, .string aa, .int .u32 0, .bool false]) ?_ 3 _ rfl; (with_reducible repeat (first | apply zA | apply zB | apply zC)); refine zG (cs := #[.int .i64 a8, .int .i64 a9, .string (⟨#[]⟩ : ByteArray), .int .u32 0, .bool false]) ?_ 2 _ rfl; (with_reducible repeat (first | apply zA | apply zB | apply zC)); refine zG (cs := #[.int .i64 a8, .int .i64 0, .string (⟨#[]⟩ : ByteArray), .int .u32 0, .bool false]) ?_ 1 _ rfl; (with_reducible repeat (first | apply zA | apply zB | apply zC)); refine zG (cs := #[.int .i64 0, .int .i64 0, .string (⟨#[]⟩ : ByteArray), .int .u32 0, .bool false]) ?_ 0 _ rfl; (with_reducible repeat (first | apply zA | apply zB | apply zC)); exact a2.out) hg (Kd.R_away a4.out (fun _ hk => hk.2))); have n1_ := uZ (hb); have n2_ := uZ (ho); clear a2; clear HB; clear a4; have a2 := n0_; have HB := n1_; have HO199 := n2_; clear n0_ n1_ n2_; clear ho hb hg hat))
       go_roundg k1
       case measure => have := HK1.out; omega
       case rel => exact ⟨(y197), (t194), (by first | rfl | (simp; done) | (simp [*]; done)), H', ⟨by have := HK1.out; omega⟩, ⟨by (with_reducible repeat (first | apply Kd.R_alloc | apply Kd.R_drewN | apply Kd.R_drew)); exact Kd.R_mono HO199.out (fun _ hk => trivial)⟩, ⟨uC HB.out GE196.out⟩⟩
      rw [if_neg c18] at H
      exact absurd H (by simp)
     rw [if_neg c12] at H
     have c12b0 : (t195 == 0) = false := beq_eq_false_iff_ne.mpr c12
     have c12b1 : (t195 != 0) = true := bne_iff_ne.mpr c12
     simp only [Option.some.injEq, Prod.mk.injEq] at H
     obtain ⟨rfl, rfl, rfl⟩ := H
     have p5 : 0 ≤ (a1 : Int) := uA
     have q5 : a1 < (a0.size : Int) := uA
     have hx5 := bt_at a0 a1
     replace p5 := eq_true p5
     replace q5 := eq_true q5
     go_wp2_with (first | ((with_reducible refine gate_callee (f := 20) rfl ?_); refine goesL_ (some 21) rfl rfl Tryd.func20 (by kernel_rfl) rfl #[.int .u8 (Go.Proofs.YtjoboaaambdpoaaDoorW.PrintWords.bt a0 a1)] rfl (by (try simp only [zI, List.map_cons, List.map_nil]); first | done | rfl | (simp only [zJ, zK]; rfl)) ?_; (with_reducible refine (switchbackref01_blank.calls (Go.Proofs.YtjoboaaambdpoaaDoorW.PrintWords.bt a0 a1) false _ A6.out).mono ?_); rintro e w' ⟨rfl, ⟨nd, rfl⟩⟩; refine ⟨_, rfl, ?_⟩; (try (rw [drewN_self wr]; generalize hq_ : World.drewN wr _ = wr; have n0_ : Aside0 (Kd.R k29 29 wr w.heap.size (fun _ => True) u5 a5) := ⟨by rw [← hq_]; exact (uR a4.out)⟩; have n1_ : Aside0 (Below w.heap.size w wr) := ⟨by rw [← hq_]; exact (uB HB.out)⟩; clear a4 HB hq_; have a4 := n0_; have HB := n1_; clear n0_ n1_))) | ((with_reducible refine gate_callee (f := 21) rfl ?_); refine goesL_ (some 26) rfl rfl Tryd.func21 (by kernel_rfl) rfl #[.string a0, .int .i64 a1] rfl (by (try simp only [zI, List.map_cons, List.map_nil]); first | done | rfl | (simp only [zJ, zK]; rfl)) ?_; (with_reducible refine (switchbackref01_comment.calls k1 a0 a1 a7 _ A8.out).mono ?_); rintro e w' ⟨rfl, ⟨nd, rfl⟩⟩; refine ⟨_, rfl, ?_⟩; (try (rw [drewN_self wr]; generalize hq_ : World.drewN wr _ = wr; have n0_ : Aside0 (Kd.R k29 29 wr w.heap.size (fun _ => True) u5 a5) := ⟨by rw [← hq_]; exact (uR a4.out)⟩; have n1_ : Aside0 (Below w.heap.size w wr) := ⟨by rw [← hq_]; exact (uB HB.out)⟩; clear a4 HB hq_; have a4 := n0_; have HB := n1_; clear n0_ n1_))) | ((with_reducible refine gate_callee (f := 22) rfl ?_); refine goesL_ (some 36) rfl rfl Tryd.func22 (by kernel_rfl) rfl #[.string a0, .int .i64 a1] rfl (by (try simp only [zI, List.map_cons, List.map_nil]); first | done | rfl | (simp only [zJ, zK]; rfl)) ?_; (with_reducible refine (switchbackref01_token.calls a0 a1 a8 a9 aa t192 t193 t194 t195 _ A11.out).mono ?_); rintro e w24 ⟨rfl, hb⟩; refine ⟨_, rfl, ?_⟩; have n0_ := uZ (Kd.R_below (uR a4.out) hb); have n1_ := uZ (below_step (uB HB.out) hb); clear a4; clear HB; have a4 := n0_; have HB := n1_; clear n0_ n1_; (try clear hb); (try clear hb2); (try clear hk); (try clear hi)) | ((with_reducible refine gate_dst (N := 8) rfl ?_); refine box_event ?hg (N := 8) ?hd (cs := #[.int .i64 0, .int .i64 0, .string (⟨#[]⟩ : ByteArray), .int .u32 0, .bool false]) (t := 29) ?hr ?_; (case hd => rfl); (case hg => rfl); (case hr => first | (go_simp; done) | (go_simp; rfl)); intro a3 hg w25 hbox hb; have n0_ := uZ (Kd.R_below (Kd.R_elderB (uR a4.out) a3 (Nat.le_of_eq hg.symm)) hb); have n1_ := uZ (below_step (uB HB.out) hb); have n2_ := uZ (hbox); have n3_ := uZ ((by rw [hg]; exact (zH (uB HB.out)) : w.heap.size ≤ a3)); have n4_ := uZ ((by rw [hg]; exact (zH (uB HB.out)) : w.heap.size ≤ a3)); clear a4; clear HB; have a4 := n0_; have HB := n1_; have a2 := n2_; have GW196 := n3_; have GE196 := n4_; clear n0_ n1_ n2_ n3_ n4_; clear hb hbox hg; have hcz26_0 : w25.cell? ⟨a3, 0, none⟩ = some (.int .i64 0) := (zF a2.out 0).trans rfl; have hcz26_1 : w25.cell? ⟨a3, 1, none⟩ = some (.int .i64 0) := (zF a2.out 1).trans rfl; have hcz26_2 : w25.cell? ⟨a3, 2, none⟩ = some (.string (⟨#[]⟩ : ByteArray)) := (zF a2.out 2).trans rfl; have hcz26_3 : w25.cell? ⟨a3, 3, none⟩ = some (.int .u32 0) := (zF a2.out 3).trans rfl; have hcz26_4 : w25.cell? ⟨a3, 4, none⟩ = some (.bool false) := (zF a2.out 4).trans rfl; have hfz26_0 := zE a2.out 0; have hfz26_1 := zE a2.out 1; have hfz26_2 := zE a2.out 2; have hfz26_3 := zE a2.out 3; have hfz26_4 := zE a2.out 4))
     go_ret3
     exact ⟨_, by first | rfl | (simp [errW_none, errW_some] <;> rfl) | (simp [*, errW_none, errW_some] <;> rfl), by first | exact Kd.R_nil _ _ _ _ _ | exact Kd.N_nil _ _ _ _ _ | exact Kd.V_nil _ _ _ _ _ | exact Kd.Q_nil _ _ _ _ _ | exact Kd.S_nil _ _ _ _ _, by repeat (first | (with_reducible first | exact HB.out | apply below_alloc | apply zD | apply below_drew1 | refine below_set ?_ GE196.out) | exact HB.out)⟩
    rw [if_neg c4] at H
    exact absurd H (by simp)
   rw [if_neg c3] at H
   have c3b0 : decide (a1 < (a0.size : Int)) = false := decide_eq_false c3
   clear c3
   by_cases c27 : a5.length < 3518437208883
   ·rw [if_pos c27] at H
    have LMc27 := uZ c27
    clear c27
    obtain ⟨y184, hy184⟩ : ∃ y_ : List (S29), y_ = (a5 ++ [(⟨0, (a0.size : Int), (⟨#[]⟩ : ByteArray), 0, false⟩ : S29)]) := ⟨_, rfl⟩
    replace H : (some (y184, 0, 0)) = some (r1, r2, r3) := by first | (rw [hy184]; with_reducible exact H) | (have H2_ := (Option.bind_some _ _).symm.trans H; rw [hy184]; with_reducible exact H2_) | (have H2_ := (Option.bind_some _ _).symm.trans H; with_reducible exact H2_) | with_reducible exact H | (rw [hy184]; exact H) | exact H
    have Ny184 := uZ hy184
    clear hy184
    simp only [Option.some.injEq, Prod.mk.injEq] at H
    obtain ⟨rfl, rfl, rfl⟩ := H
    go_wp2_with (first | ((with_reducible refine gate_builtin (b := .append) (xs := #[.tmp 53, .tmp 57]) rfl ?_); at_builtin; refine Kd.R_append k29 (w0 := w) w.heap.size rfl (.tmp 53) (.tmp 57) 22 29 (.agg #[(.int .i64 0), (.int .i64 0), (.string ⟨#[]⟩), (.int .u32 0), (.bool false)]) 40 rfl Tryd.underlying22 info29 rfl (by decide) (by omega) u5 a5 (⟨0, (a0.size : Int), (⟨#[]⟩ : ByteArray), 0, false⟩ : S29) [.int .i64 0, .int .i64 (a0.size : Int), .string (⟨#[]⟩ : ByteArray), .int .u32 0, .bool false] (fun _ => True) (fun _ => False) rfl rfl ?aP (fun _ hk => hk.elim) ?aF ?aO ?aB ?aS ?aL ?_; (case aP => exact k29_mkM _ _ _ (⟨0, (a0.size : Int), (⟨#[]⟩ : ByteArray), 0, false⟩ : S29)); (case aB => exact (uB HB.out)); (case aF => exact (fun _ _ => trivial)); (case aO => exact (uR a4.out)); (case aS => exact (zH (uB HB.out))); (case aL => have := LMc27.out; omega); intro v185 w28 ho hb hg hat; rw [← Ny184.out] at ho; have n0_ := uZ (hb); have n1_ := uZ (ho); clear HB; clear a4; have HB := n0_; have HO186 := n1_; clear n0_ n1_; clear ho hb hg hat))
    go_ret3
    exact ⟨_, by first | rfl | (simp [errW_none, errW_some] <;> rfl) | (simp [*, errW_none, errW_some] <;> rfl), by (with_reducible repeat (first | apply Kd.R_alloc | apply Kd.R_drewN | apply Kd.R_drew)); exact HO186.out, by repeat (first | (with_reducible first | exact HB.out | apply below_alloc | apply zD | apply below_drew1) | exact HB.out)⟩
   rw [if_neg c27] at H
   exact absurd H (by simp)

end Go.Proofs.YtjoboaaambdpoaaDoor.PR01
