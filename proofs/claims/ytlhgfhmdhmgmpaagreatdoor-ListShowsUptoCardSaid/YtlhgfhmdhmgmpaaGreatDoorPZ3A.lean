/- Texts joined: PZ3x0 PZ3x89 PZ3x90 PZ3x91 PZ3x92 PZ3x93 PZ3x95 PZ3x96 PZ3x94. -/
import Derived.Test.YtlhgfhmdhmgmpaaGreatDoorProg
import Derived.Below
import Derived.Deep.Draws
import Derived.Deep.AppendLies
import Derived.Maps.AppendAt
import Derived.OwnWalk
import Derived.Laws.BytesArg
import Derived.Laws.MakeOwn
import Derived.Laws.OwnMore
import Derived.Deep.OwnRows
import Derived.Tactics
import Derived.Lib.ConvBytes
import Derived.Laws.Slices
import Derived.WalkKit
import Derived.KernelRfl
import Derived.RowKit3
import Derived.Deep.LoopGhost
import Derived.Deep.QuietTactic
import Derived.BigQuiet
import Derived.WideLaws
import Derived.Deep.DeepCutAuto
import Derived.Deep.CutBlock
import Derived.Deep.RegionHeld3
import Derived.Laws.Rows
import Derived.Lib.AppendStr
import Derived.ArgAppend
import Derived.Laws.IdiomCopy
import Derived.OrdersHeld
import Derived.Laws.BitsLemmas
import Derived.RowKit
import Derived.Test.YtlhgfhmdhmgmpaaGreatDoorWWords
import Derived.Test.YtlhgfhmdhmgmpaaGreatDoorWZ
-- Written by gp.py for this claim.
namespace Go.Proofs.YtlhgfhmdhmgmpaaGreatDoor.PZ3
open Go.RowKit Go.Proofs.YtlhgfhmdhmgmpaaGreatDoorW.PrintWords Go.Proofs.YtlhgfhmdhmgmpaaGreatDoorW.PrintLast Go.Proofs.YtlhgfhmdhmgmpaaGreatDoorW.PrintMore
attribute [local go_sem] max2_int min2_int max_two min_two max_three min_three max_four min_four   -- for this text's walks alone
set_option linter.unusedVariables false
set_option linter.unusedSimpArgs false

def errW : Option Int → Value
  | none => .nilIface
  | some c => .iface 182 (.int .i64 c)
theorem errW_none : errW none = .nilIface := rfl
theorem errW_some (c : Int) : errW (some c) = .iface 182 (.int .i64 c) := rfl

theorem info3 : (Tryz.prog.info? 3).map (fun i => (i.zero, i.size, i.bytes)) = some (some (.int .i64 0), 1, 8) := by kernel_rfl
theorem info5 : (Tryz.prog.info? 5).map (fun i => (i.zero, i.size, i.bytes)) = some (some (.int .u8 0), 1, 1) := by kernel_rfl
theorem info47 : (Tryz.prog.info? 47).map (fun i => (i.zero, i.size, i.bytes)) = some (some (.int .u32 0), 1, 4) := by kernel_rfl
-- the values' own types
/-! #### struct type 172 -/

/-! #### struct type 175 -/
structure S175 where
  f0 : Int
  f1 : Int
  f2 : Int
def z175 : S175 := ⟨(0 : Int), (0 : Int), (0 : Int)⟩

/-! #### struct type 49 -/
structure S49 where
  f0 : Int
  f1 : Int
  f2 : Int
  f3 : Int
  f4 : Int
  f5 : Int
  f6 : (List Int)
def z49 : S49 := ⟨(0 : Int), (0 : Int), (0 : Int), (0 : Int), (0 : Int), (0 : Int), ([] : List Int)⟩

end Go.Proofs.YtlhgfhmdhmgmpaaGreatDoor.PZ3

-- Written by gp.py for this claim.
namespace Go.Proofs.YtlhgfhmdhmgmpaaGreatDoor.PZ3
open Go.RowKit Go.Proofs.YtlhgfhmdhmgmpaaGreatDoorW.PrintWords Go.Proofs.YtlhgfhmdhmgmpaaGreatDoorW.PrintLast Go.Proofs.YtlhgfhmdhmgmpaaGreatDoorW.PrintMore
attribute [local go_sem] max2_int min2_int max_two min_two max_three min_three max_four min_four   -- for this text's walks alone
set_option linter.unusedVariables false
set_option linter.unusedSimpArgs false

namespace q_switchbackref22_Digits
theorem uZ {p : Prop} (h : p) : Aside0 p := ⟨h⟩
theorem uB {p q : Prop} (h : p) (g : p → q := by intro h; repeat (first | (with_reducible first | exact h | apply below_alloc | apply pw_below_drewN | apply below_drew1) | exact h)) : q := g h
theorem zA : type_of% @Kd.R_alloc := @Kd.R_alloc
theorem zB : type_of% @Kd.R_drewN := @Kd.R_drewN
end q_switchbackref22_Digits
open q_switchbackref22_Digits

/-! ### switchbackref22_Digits: function 37 -/
mutual
def switchbackref22_Digits.j0 : Nat → Int → List Int → Int → Option (ByteArray)
  | 0, _, _, _ => none
  | k + 1, x0, x3, x4 => switchbackref22_Digits.l0 k x0 x3 x4
def switchbackref22_Digits.l0 : Nat → Int → List Int → Int → Option (ByteArray)
  | 0, _, _, _ => none
  | k + 1, x0, x3, x4 => if x4 > 0 then ((some (([(IntKind.u64.wrap (48 + (Int.tmod x4 10))) % 256] : List Int) : List Int)).bind fun y191 => (if y191.length + x3.length < 140737488355328 then (switchbackref22_Digits.l0 k x0 (y191 ++ x3) (IntKind.u64.wrap (Int.tdiv x4 10))) else (none))) else (if x0 < 0 then (if 1 + (strOfNums x3).size ≤ 9223372036854775807 then (some ((⟨#[45]⟩ : ByteArray) ++ (strOfNums x3))) else (none)) else (some (strOfNums x3)))
end
def switchbackref22_Digits.f (k : Nat) (a0 : Int) : Option (ByteArray) := if a0 = 0 then (some (⟨#[48]⟩ : ByteArray)) else (if a0 < 0 then (switchbackref22_Digits.j0 k a0 ([] : List Int) (IntKind.u64.wrap (-(IntKind.u64.wrap (a0))))) else (switchbackref22_Digits.j0 k a0 ([] : List Int) (IntKind.u64.wrap (a0))))
theorem switchbackref22_Digits.mono_l : ∀ k, (∀ y0 y1 y2, LeO (switchbackref22_Digits.j0 k y0 y1 y2) (switchbackref22_Digits.j0 (k + 1) y0 y1 y2)) ∧ (∀ y0 y1 y2, LeO (switchbackref22_Digits.l0 k y0 y1 y2) (switchbackref22_Digits.l0 (k + 1) y0 y1 y2))
  | 0 => ⟨fun _ _ _ r h => by simp [switchbackref22_Digits.j0] at h, fun _ _ _ r h => by simp [switchbackref22_Digits.l0] at h⟩
  | k + 1 => by
    obtain ⟨ih0, ih1⟩ := switchbackref22_Digits.mono_l k
    refine ⟨?_, ?_⟩
    · intro y0 y1 y2
      unfold switchbackref22_Digits.j0
      repeat' first
      | (with_reducible exact ih0 _ _ _)
      | (with_reducible exact ih1 _ _ _)
      | (with_reducible exact LeO.refl _)
      | (with_reducible exact LeO.none _)
      | (with_reducible refine LeO.ite ?_ ?_)
      | (with_reducible refine LeO.bind ?_ (fun _ => ?_))
      | exact ih0 _ _ _
      | exact ih1 _ _ _
      | exact LeO.none _
      | refine LeO.ite ?_ ?_
      | refine LeO.bind ?_ (fun _ => ?_)
    · intro y0 y1 y2
      unfold switchbackref22_Digits.l0
      repeat' first
      | (with_reducible exact ih0 _ _ _)
      | (with_reducible exact ih1 _ _ _)
      | (with_reducible exact LeO.refl _)
      | (with_reducible exact LeO.none _)
      | (with_reducible refine LeO.ite ?_ ?_)
      | (with_reducible refine LeO.bind ?_ (fun _ => ?_))
      | exact ih0 _ _ _
      | exact ih1 _ _ _
      | exact LeO.none _
      | refine LeO.ite ?_ ?_
      | refine LeO.bind ?_ (fun _ => ?_)
theorem switchbackref22_Digits.mono : ∀ a0 k, LeO (switchbackref22_Digits.f k a0) (switchbackref22_Digits.f (k + 1) a0) := by
  intro a0 k
  obtain ⟨ih0, ih1⟩ := switchbackref22_Digits.mono_l k
  unfold switchbackref22_Digits.f
  repeat' first
      | (with_reducible exact ih0 _ _ _)
      | (with_reducible exact ih1 _ _ _)
      | (with_reducible exact LeO.refl _)
      | (with_reducible exact LeO.none _)
      | (with_reducible refine LeO.ite ?_ ?_)
      | (with_reducible refine LeO.bind ?_ (fun _ => ?_))
      | exact ih0 _ _ _
      | exact ih1 _ _ _
      | exact LeO.none _
      | refine LeO.ite ?_ ?_
      | refine LeO.bind ?_ (fun _ => ?_)
set_option maxHeartbeats 8000000 in
set_option maxRecDepth 100000 in
theorem switchbackref22_Digits.calls (k : Nat) (a0 : Int) (r : ByteArray) (w : World) (h : switchbackref22_Digits.f k a0 = some r) :
    Calls Tryz.prog 37 #[.int .i64 a0] w fun e w' => e = .returned (.string r) ∧ Below w.heap.size w w' := by
 have HB := uZ (Below.refl w.heap.size w)
 have H : (if a0 = 0 then (some (⟨#[48]⟩ : ByteArray)) else (if a0 < 0 then (switchbackref22_Digits.j0 k a0 ([] : List Int) (IntKind.u64.wrap (-(IntKind.u64.wrap (a0))))) else (switchbackref22_Digits.j0 k a0 ([] : List Int) (IntKind.u64.wrap (a0))))) = some r := h
 clear h
 by_cases c2 : a0 = 0
 ·rw [if_pos c2] at H
  have c2b0 : (a0 == 0) = true := beq_iff_eq.mpr c2
  have c2b1 : (a0 != 0) = false := bne_eq_false_iff_eq.mpr c2
  clear c2
  obtain rfl := Option.some.inj H
  go_enter Tryz.func37, Tryz.ntmps37
  go_wp2
  go_ret
  exact ⟨by first | rfl | (simp [errW_none, errW_some] <;> rfl) | (simp [*, errW_none, errW_some] <;> rfl), by repeat (first | (with_reducible first | exact HB.out | apply below_alloc | apply pw_below_drewN | apply below_drew1) | exact HB.out)⟩
 rw [if_neg c2] at H
 have c2b0 : (a0 == 0) = false := beq_eq_false_iff_ne.mpr c2
 have c2b1 : (a0 != 0) = true := bne_iff_ne.mpr c2
 have HC3 := uZ H
 clear H
 go_enter Tryz.func37, Tryz.ntmps37
 go_upto_if 10 with (fail)
 go_cut [4] (fun v4 wc => ∃ (kq : Nat) (a1 : Int), v4 = .int .u64 a1 ∧ Aside0 (switchbackref22_Digits.j0 kq a0 ([] : List Int) a1 = some r) ∧ Aside0 (kq ≤ k) ∧ Aside0 (Kd.R (Kd.int .u8) 5 wc w.heap.size (fun _ => True) (.slice none 0 0) ([] : List Int)) ∧ Aside0 (Below w.heap.size w wc))
 case first =>
  have H := HC3.out
  clear HC3
  by_cases c4 : a0 < 0
  ·rw [if_pos c4] at H
   have c4b0 : decide (a0 < 0) = true := decide_eq_true c4
   clear c4
   (first | rw [c4b0] | (simp only [i64_w, i32_w]; rw [c4b0]) | skip)
   have H' := uZ H
   clear H
   go_wp2
   go_meet
   case rel => exact ⟨_, (IntKind.u64.wrap (-(IntKind.u64.wrap (a0)))), (by first | rfl | (simp; done) | (simp [*]; done)), H', ⟨by first | omega | exact Nat.le_refl _⟩, ⟨by first | exact Kd.R_nil _ _ _ _ _ | exact Kd.N_nil _ _ _ _ _ | exact Kd.V_nil _ _ _ _ _ | exact Kd.Q_nil _ _ _ _ _ | exact Kd.S_nil _ _ _ _ _⟩, ⟨uB HB.out⟩⟩
  rw [if_neg c4] at H
  have c4b0 : decide (a0 < 0) = false := decide_eq_false c4
  clear c4
  (first | rw [c4b0] | (simp only [i64_w, i32_w]; rw [c4b0]) | skip)
  have H' := uZ H
  clear H
  go_wp2
  go_meet
  case rel => exact ⟨_, (IntKind.u64.wrap (a0)), (by first | rfl | (simp; done) | (simp [*]; done)), H', ⟨by first | omega | exact Nat.le_refl _⟩, ⟨by first | exact Kd.R_nil _ _ _ _ _ | exact Kd.N_nil _ _ _ _ _ | exact Kd.V_nil _ _ _ _ _ | exact Kd.Q_nil _ _ _ _ _ | exact Kd.S_nil _ _ _ _ _⟩, ⟨uB HB.out⟩⟩
 case rest =>
  clear HC3
  try clear c2
  try clear c2b0
  try clear c2b1
  try clear p2
  try clear c3
  try clear c4
  try clear c4b0
  obtain ⟨kq, a1, rfl, HA, HJ2, a2, HB⟩ := hcut
  cases kq with
  | zero => exact absurd HA.out (by simp [switchbackref22_Digits.j0])
  | succ kj2 =>
   have H := HA.out
   clear HA
   simp only [switchbackref22_Digits.j0] at H
   have H' := uZ H
   clear H
   go_wp2
   go_loopg [3, 4] kj2 (fun kq v3 v4 w' => ∃ (x3_2 : List Int) (a1 : Int), v4 = .int .u64 a1 ∧ Aside0 (switchbackref22_Digits.l0 kq a0 x3_2 a1 = some r) ∧ Aside0 (kq ≤ kj2) ∧ Aside0 (Kd.R (Kd.int .u8) 5 w' w.heap.size (fun _ => True) v3 x3_2) ∧ Aside0 (Below w.heap.size w w'))
   case atStart => exact ⟨(([] : List Int)), (a1), (by first | rfl | (simp; done) | (simp [*]; done)), H', ⟨Nat.le_refl _⟩, ⟨by (with_reducible repeat (first | apply zA | apply zB | apply Kd.R_drew)); exact a2.out⟩, ⟨uB HB.out⟩⟩
   case round =>
    clear H'
    try clear c2
    try clear c2b0
    try clear c2b1
    try clear p2
    try clear c3
    try clear c4
    try clear c4b0
    try clear p2
    obtain ⟨x3_2, a1, rfl, HA, HK2, a2, HB⟩ := hrel
    cases gk with
    | zero => exact absurd HA.out (by simp [switchbackref22_Digits.l0])
    | succ k2 =>
     have H := HA.out
     clear HA
     simp only [switchbackref22_Digits.l0] at H
     by_cases c5 : a1 > 0
     ·rw [if_pos c5] at H
      have c5b0 : decide (0 < a1) = true := decide_eq_true c5
      clear c5
      obtain ⟨y191, hy191⟩ : ∃ y_ : List Int, y_ = (([(IntKind.u64.wrap (48 + (Int.tmod a1 10))) % 256] : List Int)) := ⟨_, rfl⟩
      replace H : (if y191.length + x3_2.length < 140737488355328 then (switchbackref22_Digits.l0 k2 a0 (y191 ++ x3_2) (IntKind.u64.wrap (Int.tdiv a1 10))) else (none)) = some r := by first | (rw [hy191]; with_reducible exact H) | (have H2_ := (Option.bind_some _ _).symm.trans H; rw [hy191]; with_reducible exact H2_) | (have H2_ := (Option.bind_some _ _).symm.trans H; with_reducible exact H2_) | with_reducible exact H | (rw [hy191]; exact H) | exact H
      have Ny191 := uZ hy191
      clear hy191
      by_cases c6 : y191.length + x3_2.length < 140737488355328
      ·rw [if_pos c6] at H
       have LMc6 := uZ c6
       clear c6
       obtain ⟨y194, hy194⟩ : ∃ y_ : List Int, y_ = (y191 ++ x3_2) := ⟨_, rfl⟩
       replace H : (switchbackref22_Digits.l0 k2 a0 y194 (IntKind.u64.wrap (Int.tdiv a1 10))) = some r := by first | (rw [hy194]; with_reducible exact H) | (have H2_ := (Option.bind_some _ _).symm.trans H; rw [hy194]; with_reducible exact H2_) | (have H2_ := (Option.bind_some _ _).symm.trans H; with_reducible exact H2_) | with_reducible exact H | (rw [hy194]; exact H) | exact H
       have Ny194 := uZ hy194
       clear hy194
       have H' := uZ H
       clear H
       go_wp2_with (first | ((with_reducible refine gate_dst (N := 19) rfl ?_); refine Kd.R_lit (Kd.int .u8) _ 5 ?hg (N := 19) ?hd (xs := ([(IntKind.u64.wrap (48 + (Int.tmod a1 10))) % 256] : List Int)) (inner := [.int .u8 ((IntKind.u64.wrap (48 + (Int.tmod a1 10))) % 256)]) (ok := fun _ => True) (okp := fun _ => True) ?hr ?hp (fun _ hk => hk) trivial (Below.refl _ _) (Nat.le_refl _) (by simp) ?_; (case hd => rfl); (case hg => rfl); (case hr => first | (go_simp; done) | (go_simp; rfl)); (case hp => exact (Reps.one (show Kd.M (Kd.int .u8) _ _ _ ((IntKind.u64.wrap (48 + (Int.tmod a1 10))) % 256) [.int .u8 ((IntKind.u64.wrap (48 + (Int.tmod a1 10))) % 256)] from rfl) (Reps.none _ _))); intro v192 w7 ho8 hb hg_ hnew_; clear hg_ hnew_; (first | rw [← Ny191.out] at ho8 | (simp only [Int.reduceToNat] at ho8; rw [← Ny191.out] at ho8)); have n0_ := uZ (Kd.R_elder' (by (with_reducible repeat (first | apply zA | apply zB | apply Kd.R_drew)); exact a2.out) (Kd.R_base ho8) hb); have n1_ := uZ (Kd.R_lower (Kd.R_new' ho8 (Kd.R_lt (by (with_reducible repeat (first | apply zA | apply zB | apply Kd.R_drew)); exact a2.out))) (below_size (uB HB.out))); have n2_ := uZ (below_step (uB HB.out) hb); clear a2; clear HB; have a2 := n0_; have HO193 := n1_; have HB := n2_; clear n0_ n1_ n2_; clear hb ho8; obtain ⟨Ao10, co10, eo10⟩ := Kd.R_slice a2.out; subst eo10) | ((with_reducible refine gate_builtin (b := .append) (xs := #[.tmp 19, .tmp 20]) rfl ?_); at_builtin; refine Kd.R_append_rows (Kd.int .u8) (w0 := w) w.heap.size rfl (.tmp 19) (.tmp 20) 52 5 (.int .u8 0) 1 rfl Tryz.underlying52 info5 rfl (by decide) (by omega) v192 y191 x3_2 _ _ _ (fun k_ => some k_ ≠ (.slice Ao10 x3_2.length co10 : Value).ownBlock) (fun _ => False) rfl rfl ?aO ?aR (fun _ _ h => h) (fun _ h => h.elim) ?aF ?aB ?aS ?aL ?_; (case aR => repeat (first | exact (Kd.R_reads' a2.out).2.2 | (with_reducible refine Kd.C_alloc ?_ _) | (with_reducible refine Kd.C_drewN ?_ _) | (with_reducible refine Kd.C_drew ?_))); (case aB => exact (uB HB.out)); (case aF => exact (fun k_ hk => Kd.fresh' (Kd.R_lt (by (with_reducible repeat (first | apply zA | apply zB | apply Kd.R_drew)); exact a2.out)) k_ hk)); (case aO => exact (by (with_reducible repeat (first | apply zA | apply zB | apply Kd.R_drew)); exact Kd.R_mono HO193.out (fun _ hk => hk.2))); (case aS => exact (below_size (uB HB.out))); (case aL => have := LMc6.out; omega); intro v195 w9 ho hb hg hat; rw [← Ny194.out] at ho; have n0_ := uZ (Kd.R_after (ok := (fun _ => True)) (by (with_reducible repeat (first | apply zA | apply zB | apply Kd.R_drew)); exact a2.out) hg hat); have n1_ := uZ (hb); have n2_ := uZ (ho); clear a2; clear HB; clear HO193; have a2 := n0_; have HB := n1_; have HO196 := n2_; clear n0_ n1_ n2_; clear ho hb hg hat))
       go_roundg k2
       case measure => have := HJ2.out; have := HK2.out; omega
       case rel => exact ⟨(y194), (IntKind.u64.wrap (Int.tdiv a1 10)), (by first | rfl | (simp; done) | (simp [*]; done)), H', ⟨by have := HJ2.out; have := HK2.out; omega⟩, ⟨by (with_reducible repeat (first | apply zA | apply zB | apply Kd.R_drew)); exact Kd.R_mono HO196.out (fun _ hk => trivial)⟩, ⟨uB HB.out⟩⟩
      rw [if_neg c6] at H
      exact absurd H (by simp)
     rw [if_neg c5] at H
     have c5b0 : decide (0 < a1) = false := decide_eq_false c5
     clear c5
     by_cases c11 : a0 < 0
     ·rw [if_pos c11] at H
      have c11b0 : decide (a0 < 0) = true := decide_eq_true c11
      clear c11
      by_cases c12 : 1 + (strOfNums x3_2).size ≤ 9223372036854775807
      ·rw [if_pos c12] at H
       have c12b0 := eq_true c12
       have c12b1 : decide (1 + (strOfNums x3_2).size ≤ 9223372036854775807) = true := decide_eq_true c12
       try have c12b2 : (9223372036854775807 < 1 + (strOfNums x3_2).size) = False := eq_false (Nat.not_lt.2 c12)
       obtain rfl := Option.some.inj H
       have hcv13 := own_string (P := Tryz.prog) Tryz.underlying52 Tryz.underlying5 Tryz.underlying9 (Kd.own_of_R a2.out)
       go_wp2
       go_ret
       exact ⟨by first | rfl | (simp [errW_none, errW_some] <;> rfl) | (simp [*, errW_none, errW_some] <;> rfl), by repeat (first | (with_reducible first | exact HB.out | apply below_alloc | apply pw_below_drewN | apply below_drew1) | exact HB.out)⟩
      rw [if_neg c12] at H
      exact absurd H (by simp)
     rw [if_neg c11] at H
     have c11b0 : decide (a0 < 0) = false := decide_eq_false c11
     clear c11
     obtain rfl := Option.some.inj H
     have hcv14 := own_string (P := Tryz.prog) Tryz.underlying52 Tryz.underlying5 Tryz.underlying9 (Kd.own_of_R a2.out)
     go_wp2
     go_ret
     exact ⟨by first | rfl | (simp [errW_none, errW_some] <;> rfl) | (simp [*, errW_none, errW_some] <;> rfl), by repeat (first | (with_reducible first | exact HB.out | apply below_alloc | apply pw_below_drewN | apply below_drew1) | exact HB.out)⟩

end Go.Proofs.YtlhgfhmdhmgmpaaGreatDoor.PZ3

-- Written by gp.py for this claim.
namespace Go.Proofs.YtlhgfhmdhmgmpaaGreatDoor.PZ3
open Go.RowKit Go.Proofs.YtlhgfhmdhmgmpaaGreatDoorW.PrintWords Go.Proofs.YtlhgfhmdhmgmpaaGreatDoorW.PrintLast Go.Proofs.YtlhgfhmdhmgmpaaGreatDoorW.PrintMore
attribute [local go_sem] max2_int min2_int max_two min_two max_three min_three max_four min_four   -- for this text's walks alone
set_option linter.unusedVariables false
set_option linter.unusedSimpArgs false

/-! ### switchbackref22_hex: function 38 -/
def switchbackref22_hex.l0 : Nat → Int → List Int → Int → Option (ByteArray)
  | 0, _, _, _ => none
  | k + 1, x0, x3, x4 => if x4 ≥ 0 then (if 0 ≤ (IntKind.u64.wrap (wrap64 (4 * x4))) then (if 0 ≤ (Int.tmod (shr .u32 x0 (IntKind.u64.wrap (wrap64 (4 * x4)))) 16) then (if (Int.tmod (shr .u32 x0 (IntKind.u64.wrap (wrap64 (4 * x4)))) 16) < 16 then (if x3.length < 140737488355328 then (switchbackref22_hex.l0 k x0 (x3 ++ [bt (⟨#[48, 49, 50, 51, 52, 53, 54, 55, 56, 57, 97, 98, 99, 100, 101, 102]⟩ : ByteArray) (Int.tmod (shr .u32 x0 (IntKind.u64.wrap (wrap64 (4 * x4)))) 16)]) (wrap64 (x4 - 1))) else (none)) else (none)) else (none)) else (none)) else (some (strOfNums x3))
def switchbackref22_hex.f (k : Nat) (a0 : Int) : Option (ByteArray) := switchbackref22_hex.l0 k a0 ([] : List Int) 7
theorem switchbackref22_hex.mono_l : ∀ k, (∀ y0 y1 y2, LeO (switchbackref22_hex.l0 k y0 y1 y2) (switchbackref22_hex.l0 (k + 1) y0 y1 y2))
  | 0 => fun _ _ _ r h => by simp [switchbackref22_hex.l0] at h
  | k + 1 => by
    have ih0 := switchbackref22_hex.mono_l k
    · intro y0 y1 y2
      unfold switchbackref22_hex.l0
      repeat' first
      | (with_reducible exact ih0 _ _ _)
      | (with_reducible exact LeO.refl _)
      | (with_reducible exact LeO.none _)
      | (with_reducible refine LeO.ite ?_ ?_)
      | (with_reducible refine LeO.bind ?_ (fun _ => ?_))
      | exact ih0 _ _ _
      | exact LeO.none _
      | refine LeO.ite ?_ ?_
      | refine LeO.bind ?_ (fun _ => ?_)
theorem switchbackref22_hex.mono : ∀ a0 k, LeO (switchbackref22_hex.f k a0) (switchbackref22_hex.f (k + 1) a0) := by
  intro a0 k
  have ih0 := switchbackref22_hex.mono_l k
  unfold switchbackref22_hex.f
  repeat' first
      | (with_reducible exact ih0 _ _ _)
      | (with_reducible exact LeO.refl _)
      | (with_reducible exact LeO.none _)
      | (with_reducible refine LeO.ite ?_ ?_)
      | (with_reducible refine LeO.bind ?_ (fun _ => ?_))
      | exact ih0 _ _ _
      | exact LeO.none _
      | refine LeO.ite ?_ ?_
      | refine LeO.bind ?_ (fun _ => ?_)
set_option maxHeartbeats 8000000 in
set_option maxRecDepth 100000 in
theorem switchbackref22_hex.calls (k : Nat) (a0 : Int) (r : ByteArray) (w : World) (h : switchbackref22_hex.f k a0 = some r) :
    Calls Tryz.prog 38 #[.int .u32 a0] w fun e w' => e = .returned (.string r) ∧ Below w.heap.size w w' := by
  have HB := Aside0.mk (Below.refl w.heap.size w)
  have H : (switchbackref22_hex.l0 k a0 ([] : List Int) 7) = some r := h
  clear h
  have H' := Aside0.mk H
  clear H
  go_enter Tryz.func38, Tryz.ntmps38
  go_wp2
  go_loopg [3, 4] k (fun kq v3 v4 w' => ∃ (x3_1 : List Int) (x4_1 : Int), v4 = .int .i64 x4_1 ∧ Aside0 (switchbackref22_hex.l0 kq a0 x3_1 x4_1 = some r) ∧ Aside0 (kq ≤ k) ∧ Aside0 (Kd.R (Kd.int .u8) 5 w' w.heap.size (fun _ => True) v3 x3_1) ∧ Aside0 (Below w.heap.size w w'))
  case atStart => exact ⟨(([] : List Int)), (7), (by first | rfl | (simp; done) | (simp [*]; done)), H', ⟨Nat.le_refl _⟩, ⟨by first | exact Kd.R_nil _ _ _ _ _ | exact Kd.N_nil _ _ _ _ _ | exact Kd.V_nil _ _ _ _ _ | exact Kd.Q_nil _ _ _ _ _ | exact Kd.S_nil _ _ _ _ _⟩, ⟨by repeat (first | (with_reducible first | exact HB.out | apply below_alloc | apply pw_below_drewN | apply below_drew1) | exact HB.out)⟩⟩
  case round =>
    clear H'
    obtain ⟨x3_1, x4_1, rfl, HA, HK1, HO_3, HB⟩ := hrel
    cases gk with
    | zero => exact absurd HA.out (by simp [switchbackref22_hex.l0])
    | succ k1 =>
      have H := HA.out
      clear HA
      simp only [switchbackref22_hex.l0] at H
      by_cases c2 : x4_1 ≥ 0
      · rw [if_pos c2] at H
        have c2b0 : decide (0 ≤ x4_1) = true := decide_eq_true c2
        clear c2
        obtain ⟨ji3, hji3⟩ : ∃ j_ : Int, (IntKind.u64.wrap (wrap64 (4 * x4_1))) = j_ := ⟨_, rfl⟩
        replace H : (if 0 ≤ (ji3) then (if 0 ≤ (Int.tmod (shr .u32 a0 (ji3)) 16) then (if (Int.tmod (shr .u32 a0 (ji3)) 16) < 16 then (if x3_1.length < 140737488355328 then (switchbackref22_hex.l0 k1 a0 (x3_1 ++ [bt (⟨#[48, 49, 50, 51, 52, 53, 54, 55, 56, 57, 97, 98, 99, 100, 101, 102]⟩ : ByteArray) (Int.tmod (shr .u32 a0 (ji3)) 16)]) (wrap64 (x4_1 - 1))) else (none)) else (none)) else (none)) else (none)) = some r := by first | (rw [hji3] at H; exact H) | (simp only [hji3] at H ⊢; exact H)
        by_cases c4 : 0 ≤ (ji3)
        · rw [if_pos c4] at H
          have c4b0 := eq_true c4
          have c4b1 : decide (0 ≤ (ji3)) = true := decide_eq_true c4
          clear c4
          obtain ⟨ji5, hji5⟩ : ∃ j_ : Int, (shr .u32 a0 (ji3)) = j_ := ⟨_, rfl⟩
          replace H : (if 0 ≤ (Int.tmod (ji5) 16) then (if (Int.tmod (ji5) 16) < 16 then (if x3_1.length < 140737488355328 then (switchbackref22_hex.l0 k1 a0 (x3_1 ++ [bt (⟨#[48, 49, 50, 51, 52, 53, 54, 55, 56, 57, 97, 98, 99, 100, 101, 102]⟩ : ByteArray) (Int.tmod (ji5) 16)]) (wrap64 (x4_1 - 1))) else (none)) else (none)) else (none)) = some r := by first | (rw [hji5] at H; exact H) | (simp only [hji5] at H ⊢; exact H)
          have hji5_ : (a0 / 2 ^ min (ji3).toNat 32) = ji5 := hji5
          have hji5z : (ji3) ≤ 32 → (a0 / 2 ^ (ji3).toNat) = ji5 := shr_small hji5
          obtain ⟨ji6, hji6⟩ : ∃ j_ : Int, (Int.tmod (ji5) 16) = j_ := ⟨_, rfl⟩
          replace H : (if 0 ≤ (ji6) then (if (ji6) < 16 then (if x3_1.length < 140737488355328 then (switchbackref22_hex.l0 k1 a0 (x3_1 ++ [bt (⟨#[48, 49, 50, 51, 52, 53, 54, 55, 56, 57, 97, 98, 99, 100, 101, 102]⟩ : ByteArray) (ji6)]) (wrap64 (x4_1 - 1))) else (none)) else (none)) else (none)) = some r := by first | (rw [hji6] at H; exact H) | (simp only [hji6] at H ⊢; exact H)
          by_cases c7 : 0 ≤ (ji6)
          · rw [if_pos c7] at H
            have c7b0 : decide (0 ≤ (ji6)) = true := decide_eq_true c7
            clear c7
            by_cases c8 : (ji6) < 16
            · rw [if_pos c8] at H
              have c8b0 : decide ((ji6) < 16) = true := decide_eq_true c8
              clear c8
              by_cases c10 : x3_1.length < 140737488355328
              · rw [if_pos c10] at H
                have LMc10 := Aside0.mk c10
                clear c10
                obtain ⟨y197, hy197⟩ : ∃ y_ : List Int, y_ = (x3_1 ++ [bt (⟨#[48, 49, 50, 51, 52, 53, 54, 55, 56, 57, 97, 98, 99, 100, 101, 102]⟩ : ByteArray) (ji6)]) := ⟨_, rfl⟩
                replace H : (switchbackref22_hex.l0 k1 a0 y197 (wrap64 (x4_1 - 1))) = some r := by first | (rw [hy197]; with_reducible exact H) | (have H2_ := (Option.bind_some _ _).symm.trans H; rw [hy197]; with_reducible exact H2_) | (have H2_ := (Option.bind_some _ _).symm.trans H; with_reducible exact H2_) | with_reducible exact H | (rw [hy197]; exact H) | exact H
                have Ny197 := Aside0.mk hy197
                clear hy197
                have H' := Aside0.mk H
                clear H
                have p9 : 0 ≤ ((ji6) : Int) := of_decide_eq_true (by first | (with_reducible assumption) | assumption)
                have q9 : (ji6) < (16 : Int) := of_decide_eq_true (by first | (with_reducible assumption) | assumption)
                have hx9 := bt_at (⟨#[48, 49, 50, 51, 52, 53, 54, 55, 56, 57, 97, 98, 99, 100, 101, 102]⟩ : ByteArray) (ji6)
                replace p9 := eq_true p9
                replace q9 := eq_true q9
                go_wp2_with (first | ((with_reducible refine gate_builtin (b := .append) (xs := #[.tmp 9, .tmp 17]) rfl ?_); at_builtin; refine Kd.R_append (Kd.int .u8) (w0 := w) w.heap.size rfl (.tmp 9) (.tmp 17) 52 5 (.int .u8 0) 1 rfl Tryz.underlying52 info5 rfl (by decide) (by omega) u3 x3_1 (bt (⟨#[48, 49, 50, 51, 52, 53, 54, 55, 56, 57, 97, 98, 99, 100, 101, 102]⟩ : ByteArray) (ji6)) [.int .u8 (bt (⟨#[48, 49, 50, 51, 52, 53, 54, 55, 56, 57, 97, 98, 99, 100, 101, 102]⟩ : ByteArray) (ji6))] (fun _ => True) (fun _ => False) rfl rfl ?aP (fun _ hk => hk.elim) ?aF ?aO ?aB ?aS ?aL ?_; (case aP => exact rfl); (case aB => exact (by repeat (first | (with_reducible first | exact HB.out | apply below_alloc | apply pw_below_drewN | apply below_drew1) | exact HB.out))); (case aF => exact (fun _ _ => trivial)); (case aO => exact (by (with_reducible repeat (first | apply Kd.R_alloc | apply Kd.R_drewN | apply Kd.R_drew)); exact HO_3.out)); (case aS => exact (below_size (by repeat (first | (with_reducible first | exact HB.out | apply below_alloc | apply pw_below_drewN | apply below_drew1) | exact HB.out)))); (case aL => have := LMc10.out; omega); intro v198 w11 ho hb hg hat; rw [← Ny197.out] at ho; have n0_ := Aside0.mk (hb); have n1_ := Aside0.mk (ho); clear HB; clear HO_3; have HB := n0_; have HO199 := n1_; clear n0_ n1_; clear ho hb hg hat))
                go_roundg k1
                case measure => have := HK1.out; omega
                case rel => exact ⟨(y197), (wrap64 (x4_1 - 1)), (by first | rfl | (simp; done) | (simp [*]; done)), H', ⟨by have := HK1.out; omega⟩, ⟨by (with_reducible repeat (first | apply Kd.R_alloc | apply Kd.R_drewN | apply Kd.R_drew)); exact HO199.out⟩, ⟨by repeat (first | (with_reducible first | exact HB.out | apply below_alloc | apply pw_below_drewN | apply below_drew1) | exact HB.out)⟩⟩
              · rw [if_neg c10] at H
                exact absurd H (by simp)
            · rw [if_neg c8] at H
              exact absurd H (by simp)
          · rw [if_neg c7] at H
            exact absurd H (by simp)
        · rw [if_neg c4] at H
          exact absurd H (by simp)
      · rw [if_neg c2] at H
        have c2b0 : decide (0 ≤ x4_1) = false := decide_eq_false c2
        clear c2
        obtain rfl := Option.some.inj H
        have hcv12 := own_string (P := Tryz.prog) Tryz.underlying52 Tryz.underlying5 Tryz.underlying9 (Kd.own_of_R HO_3.out)
        go_wp2
        go_ret
        exact ⟨by first | rfl | (simp [errW_none, errW_some] <;> rfl) | (simp [*, errW_none, errW_some] <;> rfl), by repeat (first | (with_reducible first | exact HB.out | apply below_alloc | apply pw_below_drewN | apply below_drew1) | exact HB.out)⟩

end Go.Proofs.YtlhgfhmdhmgmpaaGreatDoor.PZ3

-- Written by gp.py for this claim.
namespace Go.Proofs.YtlhgfhmdhmgmpaaGreatDoor.PZ3
open Go.RowKit Go.Proofs.YtlhgfhmdhmgmpaaGreatDoorW.PrintWords Go.Proofs.YtlhgfhmdhmgmpaaGreatDoorW.PrintLast Go.Proofs.YtlhgfhmdhmgmpaaGreatDoorW.PrintMore
attribute [local go_sem] max2_int min2_int max_two min_two max_three min_three max_four min_four   -- for this text's walks alone
set_option linter.unusedVariables false
set_option linter.unusedSimpArgs false

namespace q_switchbackref22_registers
theorem uZ {p : Prop} (h : p) : Aside0 p := ⟨h⟩
end q_switchbackref22_registers
open q_switchbackref22_registers

/-! ### switchbackref22_registers: function 67 -/
mutual
def switchbackref22_registers.j0 : Nat → Int → Bool → Option (Int)
  | 0, _, _ => none
  | k + 1, x0, x3 => if x3 = true then (some 1) else (if x0 = 40 then (switchbackref22_registers.j1 k true) else (if x0 = 41 then (switchbackref22_registers.j1 k true) else (if x0 = 43 then (switchbackref22_registers.j1 k true) else (if x0 = 44 then (switchbackref22_registers.j1 k true) else (switchbackref22_registers.j1 k (x0 == 48))))))
def switchbackref22_registers.j1 : Nat → Bool → Option (Int)
  | 0, _ => none
  | k + 1, x26 => if x26 = true then (some 0) else (some 2)
end
def switchbackref22_registers.f (k : Nat) (a0 : Int) : Option (Int) := if a0 = 1 then (switchbackref22_registers.j0 k a0 true) else (if a0 = 2 then (switchbackref22_registers.j0 k a0 true) else (if a0 = 42 then (switchbackref22_registers.j0 k a0 true) else (if a0 = 45 then (switchbackref22_registers.j0 k a0 true) else (if a0 = 46 then (switchbackref22_registers.j0 k a0 true) else (switchbackref22_registers.j0 k a0 (a0 == 47))))))
theorem switchbackref22_registers.mono_l : ∀ k, (∀ y0 y1, LeO (switchbackref22_registers.j0 k y0 y1) (switchbackref22_registers.j0 (k + 1) y0 y1)) ∧ (∀ y0, LeO (switchbackref22_registers.j1 k y0) (switchbackref22_registers.j1 (k + 1) y0))
  | 0 => ⟨fun _ _ r h => by simp [switchbackref22_registers.j0] at h, fun _ r h => by simp [switchbackref22_registers.j1] at h⟩
  | k + 1 => by
    obtain ⟨ih0, ih1⟩ := switchbackref22_registers.mono_l k
    refine ⟨?_, ?_⟩
    · intro y0 y1
      unfold switchbackref22_registers.j0
      repeat' first
      | (with_reducible exact ih0 _ _)
      | (with_reducible exact ih1 _)
      | (with_reducible exact LeO.refl _)
      | (with_reducible exact LeO.none _)
      | (with_reducible refine LeO.ite ?_ ?_)
      | (with_reducible refine LeO.bind ?_ (fun _ => ?_))
      | exact ih0 _ _
      | exact ih1 _
      | exact LeO.none _
      | refine LeO.ite ?_ ?_
      | refine LeO.bind ?_ (fun _ => ?_)
    · intro y0
      unfold switchbackref22_registers.j1
      repeat' first
      | (with_reducible exact ih0 _ _)
      | (with_reducible exact ih1 _)
      | (with_reducible exact LeO.refl _)
      | (with_reducible exact LeO.none _)
      | (with_reducible refine LeO.ite ?_ ?_)
      | (with_reducible refine LeO.bind ?_ (fun _ => ?_))
      | exact ih0 _ _
      | exact ih1 _
      | exact LeO.none _
      | refine LeO.ite ?_ ?_
      | refine LeO.bind ?_ (fun _ => ?_)
theorem switchbackref22_registers.mono : ∀ a0 k, LeO (switchbackref22_registers.f k a0) (switchbackref22_registers.f (k + 1) a0) := by
  intro a0 k
  obtain ⟨ih0, ih1⟩ := switchbackref22_registers.mono_l k
  unfold switchbackref22_registers.f
  repeat' first
      | (with_reducible exact ih0 _ _)
      | (with_reducible exact ih1 _)
      | (with_reducible exact LeO.refl _)
      | (with_reducible exact LeO.none _)
      | (with_reducible refine LeO.ite ?_ ?_)
      | (with_reducible refine LeO.bind ?_ (fun _ => ?_))
      | exact ih0 _ _
      | exact ih1 _
      | exact LeO.none _
      | refine LeO.ite ?_ ?_
      | refine LeO.bind ?_ (fun _ => ?_)
set_option maxHeartbeats 8000000 in
set_option maxRecDepth 100000 in
theorem switchbackref22_registers.calls (k : Nat) (a0 : Int) (r : Int) (w : World) (h : switchbackref22_registers.f k a0 = some r) :
    Calls Tryz.prog 67 #[.int .i64 a0] w fun e w' => e = .returned (.int .i64 r) ∧ Drawn0 w w' := by
 have H : (if a0 = 1 then (switchbackref22_registers.j0 k a0 true) else (if a0 = 2 then (switchbackref22_registers.j0 k a0 true) else (if a0 = 42 then (switchbackref22_registers.j0 k a0 true) else (if a0 = 45 then (switchbackref22_registers.j0 k a0 true) else (if a0 = 46 then (switchbackref22_registers.j0 k a0 true) else (switchbackref22_registers.j0 k a0 (a0 == 47))))))) = some r := h
 clear h
 have HC2 := uZ H
 clear H
 go_enter Tryz.func67, Tryz.ntmps67
 go_upto_region 1 with (fail)
 go_cut [3] (fun v3 wc => ∃ (kq : Nat) (x3_1 : Bool), v3 = .bool x3_1 ∧ Aside0 (switchbackref22_registers.j0 kq a0 x3_1 = some r) ∧ Aside0 (kq ≤ k) ∧ Drawn0 w wc)
 case first =>
  have H := HC2.out
  clear HC2
  by_cases c3 : a0 = 1
  ·rw [if_pos c3] at H
   have c3b0 : (a0 == 1) = true := beq_iff_eq.mpr c3
   have c3b1 : (a0 != 1) = false := bne_eq_false_iff_eq.mpr c3
   clear c3
   (first | rw [c3b0] | (simp only [i64_w, i32_w]; rw [c3b0]) | skip)
   have H' := uZ H
   clear H
   go_wp2
   go_meet
   case rel => exact ⟨_, (true), (by first | rfl | (simp; done) | (simp [*]; done)), H', ⟨by first | omega | exact Nat.le_refl _⟩, by repeat (first | exact Drawn0.refl _ | apply Drawn0.step)⟩
  rw [if_neg c3] at H
  have c3b0 : (a0 == 1) = false := beq_eq_false_iff_ne.mpr c3
  have c3b1 : (a0 != 1) = true := bne_iff_ne.mpr c3
  (first | rw [c3b0] | (simp only [i64_w, i32_w]; rw [c3b0]) | skip)
  by_cases c4 : a0 = 2
  ·rw [if_pos c4] at H
   have c4b0 : (a0 == 2) = true := beq_iff_eq.mpr c4
   have c4b1 : (a0 != 2) = false := bne_eq_false_iff_eq.mpr c4
   clear c4
   have H' := uZ H
   clear H
   go_wp2
   go_meet
   case rel => exact ⟨_, (true), (by first | rfl | (simp; done) | (simp [*]; done)), H', ⟨by first | omega | exact Nat.le_refl _⟩, by repeat (first | exact Drawn0.refl _ | apply Drawn0.step)⟩
  rw [if_neg c4] at H
  have c4b0 : (a0 == 2) = false := beq_eq_false_iff_ne.mpr c4
  have c4b1 : (a0 != 2) = true := bne_iff_ne.mpr c4
  by_cases c5 : a0 = 42
  ·rw [if_pos c5] at H
   have c5b0 : (a0 == 42) = true := beq_iff_eq.mpr c5
   have c5b1 : (a0 != 42) = false := bne_eq_false_iff_eq.mpr c5
   clear c5
   have H' := uZ H
   clear H
   go_wp2
   go_meet
   case rel => exact ⟨_, (true), (by first | rfl | (simp; done) | (simp [*]; done)), H', ⟨by first | omega | exact Nat.le_refl _⟩, by repeat (first | exact Drawn0.refl _ | apply Drawn0.step)⟩
  rw [if_neg c5] at H
  have c5b0 : (a0 == 42) = false := beq_eq_false_iff_ne.mpr c5
  have c5b1 : (a0 != 42) = true := bne_iff_ne.mpr c5
  by_cases c6 : a0 = 45
  ·rw [if_pos c6] at H
   have c6b0 : (a0 == 45) = true := beq_iff_eq.mpr c6
   have c6b1 : (a0 != 45) = false := bne_eq_false_iff_eq.mpr c6
   clear c6
   have H' := uZ H
   clear H
   go_wp2
   go_meet
   case rel => exact ⟨_, (true), (by first | rfl | (simp; done) | (simp [*]; done)), H', ⟨by first | omega | exact Nat.le_refl _⟩, by repeat (first | exact Drawn0.refl _ | apply Drawn0.step)⟩
  rw [if_neg c6] at H
  have c6b0 : (a0 == 45) = false := beq_eq_false_iff_ne.mpr c6
  have c6b1 : (a0 != 45) = true := bne_iff_ne.mpr c6
  by_cases c7 : a0 = 46
  ·rw [if_pos c7] at H
   have c7b0 : (a0 == 46) = true := beq_iff_eq.mpr c7
   have c7b1 : (a0 != 46) = false := bne_eq_false_iff_eq.mpr c7
   clear c7
   have H' := uZ H
   clear H
   go_wp2
   go_meet
   case rel => exact ⟨_, (true), (by first | rfl | (simp; done) | (simp [*]; done)), H', ⟨by first | omega | exact Nat.le_refl _⟩, by repeat (first | exact Drawn0.refl _ | apply Drawn0.step)⟩
  rw [if_neg c7] at H
  have c7b0 : (a0 == 46) = false := beq_eq_false_iff_ne.mpr c7
  have c7b1 : (a0 != 46) = true := bne_iff_ne.mpr c7
  have H' := uZ H
  clear H
  go_wp2
  go_meet
  case rel => exact ⟨_, ((a0 == 47)), (by first | rfl | (simp; done) | (simp [*]; done)), H', ⟨by first | omega | exact Nat.le_refl _⟩, by repeat (first | exact Drawn0.refl _ | apply Drawn0.step)⟩
 case rest =>
  clear HC2
  try clear p2
  try clear c3
  try clear c3b0
  try clear c3b1
  try clear c4
  try clear c4b0
  try clear c4b1
  try clear c5
  try clear c5b0
  try clear c5b1
  try clear c6
  try clear c6b0
  try clear c6b1
  try clear c7
  try clear c7b0
  try clear c7b1
  obtain ⟨kq, x3_1, rfl, HA, HJ1, ⟨mc1, rfl⟩⟩ := hcut
  cases kq with
  | zero => exact absurd HA.out (by simp [switchbackref22_registers.j0])
  | succ kj1 =>
   have H := HA.out
   clear HA
   simp only [switchbackref22_registers.j0] at H
   by_cases c8 : x3_1 = true
   ·subst c8
    have H1 : (some 1) = some r := by rw [if_pos rfl] at H; exact H
    clear H
    have H := H1
    clear H1
    obtain rfl := Option.some.inj H
    go_wp2
    go_ret
    exact ⟨by first | rfl | (simp; done) | (simp [*]; done), by repeat (first | exact Drawn0.refl _ | apply Drawn0.step)⟩
   replace c8 := Bool.eq_false_iff.mpr c8
   subst c8
   have H1 : (if a0 = 40 then (switchbackref22_registers.j1 kj1 true) else (if a0 = 41 then (switchbackref22_registers.j1 kj1 true) else (if a0 = 43 then (switchbackref22_registers.j1 kj1 true) else (if a0 = 44 then (switchbackref22_registers.j1 kj1 true) else (switchbackref22_registers.j1 kj1 (a0 == 48)))))) = some r := by rw [if_neg (show ¬ (false = true) by decide)] at H; exact H
   clear H
   have H := H1
   clear H1
   have HC9 := uZ H
   clear H
   go_upto_region 3 with (fail)
   go_cut [26] (fun v26 wc => ∃ (kq : Nat) (x26_8 : Bool), v26 = .bool x26_8 ∧ Aside0 (switchbackref22_registers.j1 kq x26_8 = some r) ∧ Aside0 (kq ≤ kj1) ∧ Drawn0 w wc)
   case first =>
    have H := HC9.out
    clear HC9
    by_cases c10 : a0 = 40
    ·rw [if_pos c10] at H
     have c10b0 : (a0 == 40) = true := beq_iff_eq.mpr c10
     have c10b1 : (a0 != 40) = false := bne_eq_false_iff_eq.mpr c10
     clear c10
     (first | rw [c10b0] | (simp only [i64_w, i32_w]; rw [c10b0]) | skip)
     have H' := uZ H
     clear H
     go_wp2
     go_meet
     case rel => exact ⟨_, (true), (by first | rfl | (simp; done) | (simp [*]; done)), H', ⟨by have := HJ1.out; first | omega | exact Nat.le_refl _⟩, by repeat (first | exact Drawn0.refl _ | apply Drawn0.step)⟩
    rw [if_neg c10] at H
    have c10b0 : (a0 == 40) = false := beq_eq_false_iff_ne.mpr c10
    have c10b1 : (a0 != 40) = true := bne_iff_ne.mpr c10
    (first | rw [c10b0] | (simp only [i64_w, i32_w]; rw [c10b0]) | skip)
    by_cases c11 : a0 = 41
    ·rw [if_pos c11] at H
     have c11b0 : (a0 == 41) = true := beq_iff_eq.mpr c11
     have c11b1 : (a0 != 41) = false := bne_eq_false_iff_eq.mpr c11
     clear c11
     have H' := uZ H
     clear H
     go_wp2
     go_meet
     case rel => exact ⟨_, (true), (by first | rfl | (simp; done) | (simp [*]; done)), H', ⟨by have := HJ1.out; first | omega | exact Nat.le_refl _⟩, by repeat (first | exact Drawn0.refl _ | apply Drawn0.step)⟩
    rw [if_neg c11] at H
    have c11b0 : (a0 == 41) = false := beq_eq_false_iff_ne.mpr c11
    have c11b1 : (a0 != 41) = true := bne_iff_ne.mpr c11
    by_cases c12 : a0 = 43
    ·rw [if_pos c12] at H
     have c12b0 : (a0 == 43) = true := beq_iff_eq.mpr c12
     have c12b1 : (a0 != 43) = false := bne_eq_false_iff_eq.mpr c12
     clear c12
     have H' := uZ H
     clear H
     go_wp2
     go_meet
     case rel => exact ⟨_, (true), (by first | rfl | (simp; done) | (simp [*]; done)), H', ⟨by have := HJ1.out; first | omega | exact Nat.le_refl _⟩, by repeat (first | exact Drawn0.refl _ | apply Drawn0.step)⟩
    rw [if_neg c12] at H
    have c12b0 : (a0 == 43) = false := beq_eq_false_iff_ne.mpr c12
    have c12b1 : (a0 != 43) = true := bne_iff_ne.mpr c12
    by_cases c13 : a0 = 44
    ·rw [if_pos c13] at H
     have c13b0 : (a0 == 44) = true := beq_iff_eq.mpr c13
     have c13b1 : (a0 != 44) = false := bne_eq_false_iff_eq.mpr c13
     clear c13
     have H' := uZ H
     clear H
     go_wp2
     go_meet
     case rel => exact ⟨_, (true), (by first | rfl | (simp; done) | (simp [*]; done)), H', ⟨by have := HJ1.out; first | omega | exact Nat.le_refl _⟩, by repeat (first | exact Drawn0.refl _ | apply Drawn0.step)⟩
    rw [if_neg c13] at H
    have c13b0 : (a0 == 44) = false := beq_eq_false_iff_ne.mpr c13
    have c13b1 : (a0 != 44) = true := bne_iff_ne.mpr c13
    have H' := uZ H
    clear H
    go_wp2
    go_meet
    case rel => exact ⟨_, ((a0 == 48)), (by first | rfl | (simp; done) | (simp [*]; done)), H', ⟨by have := HJ1.out; first | omega | exact Nat.le_refl _⟩, by repeat (first | exact Drawn0.refl _ | apply Drawn0.step)⟩
   case rest =>
    clear HC9
    try clear c1
    try clear p2
    try clear c3
    try clear c3b0
    try clear c3b1
    try clear c4
    try clear c4b0
    try clear c4b1
    try clear c5
    try clear c5b0
    try clear c5b1
    try clear c6
    try clear c6b0
    try clear c6b1
    try clear c7
    try clear c7b0
    try clear c7b1
    try clear c8
    try clear c10
    try clear c10b0
    try clear c10b1
    try clear c11
    try clear c11b0
    try clear c11b1
    try clear c12
    try clear c12b0
    try clear c12b1
    try clear c13
    try clear c13b0
    try clear c13b1
    try clear p2
    obtain ⟨kq, x26_8, rfl, HA, HJ8, ⟨mc8, rfl⟩⟩ := hcut
    cases kq with
    | zero => exact absurd HA.out (by simp [switchbackref22_registers.j1])
    | succ kj8 =>
     have H := HA.out
     clear HA
     simp only [switchbackref22_registers.j1] at H
     by_cases c14 : x26_8 = true
     ·subst c14
      have H1 : (some 0) = some r := by rw [if_pos rfl] at H; exact H
      clear H
      have H := H1
      clear H1
      obtain rfl := Option.some.inj H
      go_wp2
      go_ret
      exact ⟨by first | rfl | (simp; done) | (simp [*]; done), by repeat (first | exact Drawn0.refl _ | apply Drawn0.step)⟩
     replace c14 := Bool.eq_false_iff.mpr c14
     subst c14
     have H1 : (some 2) = some r := by rw [if_neg (show ¬ (false = true) by decide)] at H; exact H
     clear H
     have H := H1
     clear H1
     obtain rfl := Option.some.inj H
     go_wp2
     go_ret
     exact ⟨by first | rfl | (simp; done) | (simp [*]; done), by repeat (first | exact Drawn0.refl _ | apply Drawn0.step)⟩

end Go.Proofs.YtlhgfhmdhmgmpaaGreatDoor.PZ3

-- Written by gp.py for this claim.
namespace Go.Proofs.YtlhgfhmdhmgmpaaGreatDoor.PZ3
open Go.RowKit Go.Proofs.YtlhgfhmdhmgmpaaGreatDoorW.PrintWords Go.Proofs.YtlhgfhmdhmgmpaaGreatDoorW.PrintLast Go.Proofs.YtlhgfhmdhmgmpaaGreatDoorW.PrintMore
attribute [local go_sem] max2_int min2_int max_two min_two max_three min_three max_four min_four   -- for this text's walks alone
set_option linter.unusedVariables false
set_option linter.unusedSimpArgs false

/-! ### switchbackref22_three: function 69 -/
def switchbackref22_three.f (a0 : Int) : Option (Bool) := if a0 ≥ 5 then (some (decide (a0 ≤ 23))) else (some false)
set_option maxHeartbeats 8000000 in
set_option maxRecDepth 100000 in
theorem switchbackref22_three.calls (a0 : Int) (r : Bool) (w : World) (h : switchbackref22_three.f a0 = some r) :
    Calls Tryz.prog 69 #[.int .i64 a0] w fun e w' => e = .returned (.bool r) ∧ Drawn0 w w' := by
  have H : (if a0 ≥ 5 then (some (decide (a0 ≤ 23))) else (some false)) = some r := h
  clear h
  by_cases c2 : a0 ≥ 5
  · rw [if_pos c2] at H
    have c2b0 : decide (5 ≤ a0) = true := decide_eq_true c2
    clear c2
    obtain rfl := Option.some.inj H
    go_enter Tryz.func69, Tryz.ntmps69
    go_wp2
    go_ret
    exact ⟨by first | rfl | (simp; done) | (simp [*]; done), by repeat (first | exact Drawn0.refl _ | apply Drawn0.step)⟩
  · rw [if_neg c2] at H
    have c2b0 : decide (5 ≤ a0) = false := decide_eq_false c2
    clear c2
    obtain rfl := Option.some.inj H
    go_enter Tryz.func69, Tryz.ntmps69
    go_wp2
    go_ret
    exact ⟨by first | rfl | (simp; done) | (simp [*]; done), by repeat (first | exact Drawn0.refl _ | apply Drawn0.step)⟩

end Go.Proofs.YtlhgfhmdhmgmpaaGreatDoor.PZ3

-- Written by gp.py for this claim.
namespace Go.Proofs.YtlhgfhmdhmgmpaaGreatDoor.PZ3
open Go.RowKit Go.Proofs.YtlhgfhmdhmgmpaaGreatDoorW.PrintWords Go.Proofs.YtlhgfhmdhmgmpaaGreatDoorW.PrintLast Go.Proofs.YtlhgfhmdhmgmpaaGreatDoorW.PrintMore
attribute [local go_sem] max2_int min2_int max_two min_two max_three min_three max_four min_four   -- for this text's walks alone
set_option linter.unusedVariables false
set_option linter.unusedSimpArgs false

/-! ### switchbackref22_Name: function 95 -/
def switchbackref22_Name.f (a0 : Int) : Option (ByteArray) := (some (([(⟨#[76, 73]⟩ : ByteArray), (⟨#[76, 73, 84]⟩ : ByteArray), (⟨#[77, 79, 86]⟩ : ByteArray), (⟨#[65, 68, 68, 73]⟩ : ByteArray), (⟨#[65, 68, 68]⟩ : ByteArray), (⟨#[83, 85, 66]⟩ : ByteArray), (⟨#[77, 85, 76]⟩ : ByteArray), (⟨#[68, 73, 86, 83]⟩ : ByteArray), (⟨#[68, 73, 86, 85]⟩ : ByteArray), (⟨#[82, 69, 77, 83]⟩ : ByteArray), (⟨#[82, 69, 77, 85]⟩ : ByteArray), (⟨#[65, 78, 68]⟩ : ByteArray), (⟨#[79, 82]⟩ : ByteArray), (⟨#[88, 79, 82]⟩ : ByteArray), (⟨#[83, 72, 76]⟩ : ByteArray), (⟨#[83, 72, 82, 83]⟩ : ByteArray), (⟨#[83, 72, 82, 85]⟩ : ByteArray), (⟨#[69, 81]⟩ : ByteArray), (⟨#[78, 69]⟩ : ByteArray), (⟨#[76, 84, 83]⟩ : ByteArray), (⟨#[76, 84, 85]⟩ : ByteArray), (⟨#[76, 69, 83]⟩ : ByteArray), (⟨#[76, 69, 85]⟩ : ByteArray), (⟨#[78, 69, 71]⟩ : ByteArray), (⟨#[78, 79, 84]⟩ : ByteArray), (⟨#[76, 79, 87]⟩ : ByteArray), (⟨#[76, 68]⟩ : ByteArray), (⟨#[83, 84]⟩ : ByteArray), (⟨#[67, 72, 75]⟩ : ByteArray), (⟨#[66, 69, 81]⟩ : ByteArray), (⟨#[66, 78, 69]⟩ : ByteArray), (⟨#[66, 76, 84, 83]⟩ : ByteArray), (⟨#[66, 71, 69, 83]⟩ : ByteArray), (⟨#[66, 76, 69, 83]⟩ : ByteArray), (⟨#[66, 71, 84, 83]⟩ : ByteArray), (⟨#[66, 76, 84, 85]⟩ : ByteArray), (⟨#[66, 71, 69, 85]⟩ : ByteArray), (⟨#[66, 76, 69, 85]⟩ : ByteArray), (⟨#[66, 71, 84, 85]⟩ : ByteArray), (⟨#[74, 77, 80]⟩ : ByteArray), (⟨#[74, 77, 76]⟩ : ByteArray), (⟨#[74, 84, 65, 66]⟩ : ByteArray), (⟨#[67, 65, 76, 76]⟩ : ByteArray), (⟨#[82, 69, 84]⟩ : ByteArray), (⟨#[71, 69, 84, 67]⟩ : ByteArray), (⟨#[80, 85, 84, 67]⟩ : ByteArray), (⟨#[69, 88, 73, 84]⟩ : ByteArray), (⟨#[84, 82, 65, 80]⟩ : ByteArray)] : List ByteArray) : List ByteArray)).bind fun y200 => (if 0 ≤ (wrap64 (a0 - 1)) then (if (wrap64 (a0 - 1)) < (y200.length : Int) then (some (rdOf ByteArray.empty y200 (wrap64 (a0 - 1)))) else (none)) else (none))
set_option maxHeartbeats 8000000 in
set_option maxRecDepth 100000 in
theorem switchbackref22_Name.calls (a0 : Int) (r : ByteArray) (w : World) (h : switchbackref22_Name.f a0 = some r) :
    Calls Tryz.prog 95 #[.int .i64 a0] w fun e w' => e = .returned (.string r) ∧ Below w.heap.size w w' := by
  have HB := Aside0.mk (Below.refl w.heap.size w)
  have H : ((some (([(⟨#[76, 73]⟩ : ByteArray), (⟨#[76, 73, 84]⟩ : ByteArray), (⟨#[77, 79, 86]⟩ : ByteArray), (⟨#[65, 68, 68, 73]⟩ : ByteArray), (⟨#[65, 68, 68]⟩ : ByteArray), (⟨#[83, 85, 66]⟩ : ByteArray), (⟨#[77, 85, 76]⟩ : ByteArray), (⟨#[68, 73, 86, 83]⟩ : ByteArray), (⟨#[68, 73, 86, 85]⟩ : ByteArray), (⟨#[82, 69, 77, 83]⟩ : ByteArray), (⟨#[82, 69, 77, 85]⟩ : ByteArray), (⟨#[65, 78, 68]⟩ : ByteArray), (⟨#[79, 82]⟩ : ByteArray), (⟨#[88, 79, 82]⟩ : ByteArray), (⟨#[83, 72, 76]⟩ : ByteArray), (⟨#[83, 72, 82, 83]⟩ : ByteArray), (⟨#[83, 72, 82, 85]⟩ : ByteArray), (⟨#[69, 81]⟩ : ByteArray), (⟨#[78, 69]⟩ : ByteArray), (⟨#[76, 84, 83]⟩ : ByteArray), (⟨#[76, 84, 85]⟩ : ByteArray), (⟨#[76, 69, 83]⟩ : ByteArray), (⟨#[76, 69, 85]⟩ : ByteArray), (⟨#[78, 69, 71]⟩ : ByteArray), (⟨#[78, 79, 84]⟩ : ByteArray), (⟨#[76, 79, 87]⟩ : ByteArray), (⟨#[76, 68]⟩ : ByteArray), (⟨#[83, 84]⟩ : ByteArray), (⟨#[67, 72, 75]⟩ : ByteArray), (⟨#[66, 69, 81]⟩ : ByteArray), (⟨#[66, 78, 69]⟩ : ByteArray), (⟨#[66, 76, 84, 83]⟩ : ByteArray), (⟨#[66, 71, 69, 83]⟩ : ByteArray), (⟨#[66, 76, 69, 83]⟩ : ByteArray), (⟨#[66, 71, 84, 83]⟩ : ByteArray), (⟨#[66, 76, 84, 85]⟩ : ByteArray), (⟨#[66, 71, 69, 85]⟩ : ByteArray), (⟨#[66, 76, 69, 85]⟩ : ByteArray), (⟨#[66, 71, 84, 85]⟩ : ByteArray), (⟨#[74, 77, 80]⟩ : ByteArray), (⟨#[74, 77, 76]⟩ : ByteArray), (⟨#[74, 84, 65, 66]⟩ : ByteArray), (⟨#[67, 65, 76, 76]⟩ : ByteArray), (⟨#[82, 69, 84]⟩ : ByteArray), (⟨#[71, 69, 84, 67]⟩ : ByteArray), (⟨#[80, 85, 84, 67]⟩ : ByteArray), (⟨#[69, 88, 73, 84]⟩ : ByteArray), (⟨#[84, 82, 65, 80]⟩ : ByteArray)] : List ByteArray) : List ByteArray)).bind fun y200 => (if 0 ≤ (wrap64 (a0 - 1)) then (if (wrap64 (a0 - 1)) < (y200.length : Int) then (some (rdOf ByteArray.empty y200 (wrap64 (a0 - 1)))) else (none)) else (none))) = some r := h
  clear h
  obtain ⟨y200, hy200⟩ : ∃ y_ : List ByteArray, y_ = (([(⟨#[76, 73]⟩ : ByteArray), (⟨#[76, 73, 84]⟩ : ByteArray), (⟨#[77, 79, 86]⟩ : ByteArray), (⟨#[65, 68, 68, 73]⟩ : ByteArray), (⟨#[65, 68, 68]⟩ : ByteArray), (⟨#[83, 85, 66]⟩ : ByteArray), (⟨#[77, 85, 76]⟩ : ByteArray), (⟨#[68, 73, 86, 83]⟩ : ByteArray), (⟨#[68, 73, 86, 85]⟩ : ByteArray), (⟨#[82, 69, 77, 83]⟩ : ByteArray), (⟨#[82, 69, 77, 85]⟩ : ByteArray), (⟨#[65, 78, 68]⟩ : ByteArray), (⟨#[79, 82]⟩ : ByteArray), (⟨#[88, 79, 82]⟩ : ByteArray), (⟨#[83, 72, 76]⟩ : ByteArray), (⟨#[83, 72, 82, 83]⟩ : ByteArray), (⟨#[83, 72, 82, 85]⟩ : ByteArray), (⟨#[69, 81]⟩ : ByteArray), (⟨#[78, 69]⟩ : ByteArray), (⟨#[76, 84, 83]⟩ : ByteArray), (⟨#[76, 84, 85]⟩ : ByteArray), (⟨#[76, 69, 83]⟩ : ByteArray), (⟨#[76, 69, 85]⟩ : ByteArray), (⟨#[78, 69, 71]⟩ : ByteArray), (⟨#[78, 79, 84]⟩ : ByteArray), (⟨#[76, 79, 87]⟩ : ByteArray), (⟨#[76, 68]⟩ : ByteArray), (⟨#[83, 84]⟩ : ByteArray), (⟨#[67, 72, 75]⟩ : ByteArray), (⟨#[66, 69, 81]⟩ : ByteArray), (⟨#[66, 78, 69]⟩ : ByteArray), (⟨#[66, 76, 84, 83]⟩ : ByteArray), (⟨#[66, 71, 69, 83]⟩ : ByteArray), (⟨#[66, 76, 69, 83]⟩ : ByteArray), (⟨#[66, 71, 84, 83]⟩ : ByteArray), (⟨#[66, 76, 84, 85]⟩ : ByteArray), (⟨#[66, 71, 69, 85]⟩ : ByteArray), (⟨#[66, 76, 69, 85]⟩ : ByteArray), (⟨#[66, 71, 84, 85]⟩ : ByteArray), (⟨#[74, 77, 80]⟩ : ByteArray), (⟨#[74, 77, 76]⟩ : ByteArray), (⟨#[74, 84, 65, 66]⟩ : ByteArray), (⟨#[67, 65, 76, 76]⟩ : ByteArray), (⟨#[82, 69, 84]⟩ : ByteArray), (⟨#[71, 69, 84, 67]⟩ : ByteArray), (⟨#[80, 85, 84, 67]⟩ : ByteArray), (⟨#[69, 88, 73, 84]⟩ : ByteArray), (⟨#[84, 82, 65, 80]⟩ : ByteArray)] : List ByteArray)) := ⟨_, rfl⟩
  replace H : (if 0 ≤ (wrap64 (a0 - 1)) then (if (wrap64 (a0 - 1)) < (y200.length : Int) then (some (rdOf ByteArray.empty y200 (wrap64 (a0 - 1)))) else (none)) else (none)) = some r := by first | (rw [hy200]; with_reducible exact H) | (have H2_ := (Option.bind_some _ _).symm.trans H; rw [hy200]; with_reducible exact H2_) | (have H2_ := (Option.bind_some _ _).symm.trans H; with_reducible exact H2_) | with_reducible exact H | (rw [hy200]; exact H) | exact H
  have Ny200 := Aside0.mk hy200
  clear hy200
  obtain ⟨ji2, hji2⟩ : ∃ j_ : Int, (wrap64 (a0 - 1)) = j_ := ⟨_, rfl⟩
  replace H : (if 0 ≤ (ji2) then (if (ji2) < (y200.length : Int) then (some (rdOf ByteArray.empty y200 (ji2))) else (none)) else (none)) = some r := by first | (rw [hji2] at H; exact H) | (simp only [hji2] at H ⊢; exact H)
  have hji2w : (IntKind.i64.wrap (a0 - 1)) = ji2 := (i64_w _).trans hji2
  by_cases c3 : 0 ≤ (ji2)
  · rw [if_pos c3] at H
    have c3b0 : decide (0 ≤ (ji2)) = true := decide_eq_true c3
    clear c3
    by_cases c4 : (ji2) < (y200.length : Int)
    · rw [if_pos c4] at H
      have c4b0 : decide ((ji2) < (y200.length : Int)) = true := decide_eq_true c4
      clear c4
      obtain rfl := Option.some.inj H
      go_enter Tryz.func95, Tryz.ntmps95
      go_wp2_with (first | ((with_reducible refine gate_dst (N := 4) rfl ?_); refine Kd.R_lit Kd.string _ 9 ?hg (N := 4) ?hd (xs := ([(⟨#[76, 73]⟩ : ByteArray), (⟨#[76, 73, 84]⟩ : ByteArray), (⟨#[77, 79, 86]⟩ : ByteArray), (⟨#[65, 68, 68, 73]⟩ : ByteArray), (⟨#[65, 68, 68]⟩ : ByteArray), (⟨#[83, 85, 66]⟩ : ByteArray), (⟨#[77, 85, 76]⟩ : ByteArray), (⟨#[68, 73, 86, 83]⟩ : ByteArray), (⟨#[68, 73, 86, 85]⟩ : ByteArray), (⟨#[82, 69, 77, 83]⟩ : ByteArray), (⟨#[82, 69, 77, 85]⟩ : ByteArray), (⟨#[65, 78, 68]⟩ : ByteArray), (⟨#[79, 82]⟩ : ByteArray), (⟨#[88, 79, 82]⟩ : ByteArray), (⟨#[83, 72, 76]⟩ : ByteArray), (⟨#[83, 72, 82, 83]⟩ : ByteArray), (⟨#[83, 72, 82, 85]⟩ : ByteArray), (⟨#[69, 81]⟩ : ByteArray), (⟨#[78, 69]⟩ : ByteArray), (⟨#[76, 84, 83]⟩ : ByteArray), (⟨#[76, 84, 85]⟩ : ByteArray), (⟨#[76, 69, 83]⟩ : ByteArray), (⟨#[76, 69, 85]⟩ : ByteArray), (⟨#[78, 69, 71]⟩ : ByteArray), (⟨#[78, 79, 84]⟩ : ByteArray), (⟨#[76, 79, 87]⟩ : ByteArray), (⟨#[76, 68]⟩ : ByteArray), (⟨#[83, 84]⟩ : ByteArray), (⟨#[67, 72, 75]⟩ : ByteArray), (⟨#[66, 69, 81]⟩ : ByteArray), (⟨#[66, 78, 69]⟩ : ByteArray), (⟨#[66, 76, 84, 83]⟩ : ByteArray), (⟨#[66, 71, 69, 83]⟩ : ByteArray), (⟨#[66, 76, 69, 83]⟩ : ByteArray), (⟨#[66, 71, 84, 83]⟩ : ByteArray), (⟨#[66, 76, 84, 85]⟩ : ByteArray), (⟨#[66, 71, 69, 85]⟩ : ByteArray), (⟨#[66, 76, 69, 85]⟩ : ByteArray), (⟨#[66, 71, 84, 85]⟩ : ByteArray), (⟨#[74, 77, 80]⟩ : ByteArray), (⟨#[74, 77, 76]⟩ : ByteArray), (⟨#[74, 84, 65, 66]⟩ : ByteArray), (⟨#[67, 65, 76, 76]⟩ : ByteArray), (⟨#[82, 69, 84]⟩ : ByteArray), (⟨#[71, 69, 84, 67]⟩ : ByteArray), (⟨#[80, 85, 84, 67]⟩ : ByteArray), (⟨#[69, 88, 73, 84]⟩ : ByteArray), (⟨#[84, 82, 65, 80]⟩ : ByteArray)] : List ByteArray)) (inner := [.string (⟨#[76, 73]⟩ : ByteArray), .string (⟨#[76, 73, 84]⟩ : ByteArray), .string (⟨#[77, 79, 86]⟩ : ByteArray), .string (⟨#[65, 68, 68, 73]⟩ : ByteArray), .string (⟨#[65, 68, 68]⟩ : ByteArray), .string (⟨#[83, 85, 66]⟩ : ByteArray), .string (⟨#[77, 85, 76]⟩ : ByteArray), .string (⟨#[68, 73, 86, 83]⟩ : ByteArray), .string (⟨#[68, 73, 86, 85]⟩ : ByteArray), .string (⟨#[82, 69, 77, 83]⟩ : ByteArray), .string (⟨#[82, 69, 77, 85]⟩ : ByteArray), .string (⟨#[65, 78, 68]⟩ : ByteArray), .string (⟨#[79, 82]⟩ : ByteArray), .string (⟨#[88, 79, 82]⟩ : ByteArray), .string (⟨#[83, 72, 76]⟩ : ByteArray), .string (⟨#[83, 72, 82, 83]⟩ : ByteArray), .string (⟨#[83, 72, 82, 85]⟩ : ByteArray), .string (⟨#[69, 81]⟩ : ByteArray), .string (⟨#[78, 69]⟩ : ByteArray), .string (⟨#[76, 84, 83]⟩ : ByteArray), .string (⟨#[76, 84, 85]⟩ : ByteArray), .string (⟨#[76, 69, 83]⟩ : ByteArray), .string (⟨#[76, 69, 85]⟩ : ByteArray), .string (⟨#[78, 69, 71]⟩ : ByteArray), .string (⟨#[78, 79, 84]⟩ : ByteArray), .string (⟨#[76, 79, 87]⟩ : ByteArray), .string (⟨#[76, 68]⟩ : ByteArray), .string (⟨#[83, 84]⟩ : ByteArray), .string (⟨#[67, 72, 75]⟩ : ByteArray), .string (⟨#[66, 69, 81]⟩ : ByteArray), .string (⟨#[66, 78, 69]⟩ : ByteArray), .string (⟨#[66, 76, 84, 83]⟩ : ByteArray), .string (⟨#[66, 71, 69, 83]⟩ : ByteArray), .string (⟨#[66, 76, 69, 83]⟩ : ByteArray), .string (⟨#[66, 71, 84, 83]⟩ : ByteArray), .string (⟨#[66, 76, 84, 85]⟩ : ByteArray), .string (⟨#[66, 71, 69, 85]⟩ : ByteArray), .string (⟨#[66, 76, 69, 85]⟩ : ByteArray), .string (⟨#[66, 71, 84, 85]⟩ : ByteArray), .string (⟨#[74, 77, 80]⟩ : ByteArray), .string (⟨#[74, 77, 76]⟩ : ByteArray), .string (⟨#[74, 84, 65, 66]⟩ : ByteArray), .string (⟨#[67, 65, 76, 76]⟩ : ByteArray), .string (⟨#[82, 69, 84]⟩ : ByteArray), .string (⟨#[71, 69, 84, 67]⟩ : ByteArray), .string (⟨#[80, 85, 84, 67]⟩ : ByteArray), .string (⟨#[69, 88, 73, 84]⟩ : ByteArray), .string (⟨#[84, 82, 65, 80]⟩ : ByteArray)]) (ok := fun _ => True) (okp := fun _ => True) ?hr ?hp (fun _ hk => hk) trivial (Below.refl _ _) (Nat.le_refl _) (by simp) ?_; (case hd => rfl); (case hg => rfl); (case hr => first | (go_simp; done) | (go_simp; rfl)); (case hp => exact (Reps.one (show Kd.M Kd.string _ _ _ (⟨#[76, 73]⟩ : ByteArray) [.string (⟨#[76, 73]⟩ : ByteArray)] from rfl) (Reps.one (show Kd.M Kd.string _ _ _ (⟨#[76, 73, 84]⟩ : ByteArray) [.string (⟨#[76, 73, 84]⟩ : ByteArray)] from rfl) (Reps.one (show Kd.M Kd.string _ _ _ (⟨#[77, 79, 86]⟩ : ByteArray) [.string (⟨#[77, 79, 86]⟩ : ByteArray)] from rfl) (Reps.one (show Kd.M Kd.string _ _ _ (⟨#[65, 68, 68, 73]⟩ : ByteArray) [.string (⟨#[65, 68, 68, 73]⟩ : ByteArray)] from rfl) (Reps.one (show Kd.M Kd.string _ _ _ (⟨#[65, 68, 68]⟩ : ByteArray) [.string (⟨#[65, 68, 68]⟩ : ByteArray)] from rfl) (Reps.one (show Kd.M Kd.string _ _ _ (⟨#[83, 85, 66]⟩ : ByteArray) [.string (⟨#[83, 85, 66]⟩ : ByteArray)] from rfl) (Reps.one (show Kd.M Kd.string _ _ _ (⟨#[77, 85, 76]⟩ : ByteArray) [.string (⟨#[77, 85, 76]⟩ : ByteArray)] from rfl) (Reps.one (show Kd.M Kd.string _ _ _ (⟨#[68, 73, 86, 83]⟩ : ByteArray) [.string (⟨#[68, 73, 86, 83]⟩ : ByteArray)] from rfl) (Reps.one (show Kd.M Kd.string _ _ _ (⟨#[68, 73, 86, 85]⟩ : ByteArray) [.string (⟨#[68, 73, 86, 85]⟩ : ByteArray)] from rfl) (Reps.one (show Kd.M Kd.string _ _ _ (⟨#[82, 69, 77, 83]⟩ : ByteArray) [.string (⟨#[82, 69, 77, 83]⟩ : ByteArray)] from rfl) (Reps.one (show Kd.M Kd.string _ _ _ (⟨#[82, 69, 77, 85]⟩ : ByteArray) [.string (⟨#[82, 69, 77, 85]⟩ : ByteArray)] from rfl) (Reps.one (show Kd.M Kd.string _ _ _ (⟨#[65, 78, 68]⟩ : ByteArray) [.string (⟨#[65, 78, 68]⟩ : ByteArray)] from rfl) (Reps.one (show Kd.M Kd.string _ _ _ (⟨#[79, 82]⟩ : ByteArray) [.string (⟨#[79, 82]⟩ : ByteArray)] from rfl) (Reps.one (show Kd.M Kd.string _ _ _ (⟨#[88, 79, 82]⟩ : ByteArray) [.string (⟨#[88, 79, 82]⟩ : ByteArray)] from rfl) (Reps.one (show Kd.M Kd.string _ _ _ (⟨#[83, 72, 76]⟩ : ByteArray) [.string (⟨#[83, 72, 76]⟩ : ByteArray)] from rfl) (Reps.one (show Kd.M Kd.string _ _ _ (⟨#[83, 72, 82, 83]⟩ : ByteArray) [.string (⟨#[83, 72, 82, 83]⟩ : ByteArray)] from rfl) (Reps.one (show Kd.M Kd.string _ _ _ (⟨#[83, 72, 82, 85]⟩ : ByteArray) [.string (⟨#[83, 72, 82, 85]⟩ : ByteArray)] from rfl) (Reps.one (show Kd.M Kd.string _ _ _ (⟨#[69, 81]⟩ : ByteArray) [.string (⟨#[69, 81]⟩ : ByteArray)] from rfl) (Reps.one (show Kd.M Kd.string _ _ _ (⟨#[78, 69]⟩ : ByteArray) [.string (⟨#[78, 69]⟩ : ByteArray)] from rfl) (Reps.one (show Kd.M Kd.string _ _ _ (⟨#[76, 84, 83]⟩ : ByteArray) [.string (⟨#[76, 84, 83]⟩ : ByteArray)] from rfl) (Reps.one (show Kd.M Kd.string _ _ _ (⟨#[76, 84, 85]⟩ : ByteArray) [.string (⟨#[76, 84, 85]⟩ : ByteArray)] from rfl) (Reps.one (show Kd.M Kd.string _ _ _ (⟨#[76, 69, 83]⟩ : ByteArray) [.string (⟨#[76, 69, 83]⟩ : ByteArray)] from rfl) (Reps.one (show Kd.M Kd.string _ _ _ (⟨#[76, 69, 85]⟩ : ByteArray) [.string (⟨#[76, 69, 85]⟩ : ByteArray)] from rfl) (Reps.one (show Kd.M Kd.string _ _ _ (⟨#[78, 69, 71]⟩ : ByteArray) [.string (⟨#[78, 69, 71]⟩ : ByteArray)] from rfl) (Reps.one (show Kd.M Kd.string _ _ _ (⟨#[78, 79, 84]⟩ : ByteArray) [.string (⟨#[78, 79, 84]⟩ : ByteArray)] from rfl) (Reps.one (show Kd.M Kd.string _ _ _ (⟨#[76, 79, 87]⟩ : ByteArray) [.string (⟨#[76, 79, 87]⟩ : ByteArray)] from rfl) (Reps.one (show Kd.M Kd.string _ _ _ (⟨#[76, 68]⟩ : ByteArray) [.string (⟨#[76, 68]⟩ : ByteArray)] from rfl) (Reps.one (show Kd.M Kd.string _ _ _ (⟨#[83, 84]⟩ : ByteArray) [.string (⟨#[83, 84]⟩ : ByteArray)] from rfl) (Reps.one (show Kd.M Kd.string _ _ _ (⟨#[67, 72, 75]⟩ : ByteArray) [.string (⟨#[67, 72, 75]⟩ : ByteArray)] from rfl) (Reps.one (show Kd.M Kd.string _ _ _ (⟨#[66, 69, 81]⟩ : ByteArray) [.string (⟨#[66, 69, 81]⟩ : ByteArray)] from rfl) (Reps.one (show Kd.M Kd.string _ _ _ (⟨#[66, 78, 69]⟩ : ByteArray) [.string (⟨#[66, 78, 69]⟩ : ByteArray)] from rfl) (Reps.one (show Kd.M Kd.string _ _ _ (⟨#[66, 76, 84, 83]⟩ : ByteArray) [.string (⟨#[66, 76, 84, 83]⟩ : ByteArray)] from rfl) (Reps.one (show Kd.M Kd.string _ _ _ (⟨#[66, 71, 69, 83]⟩ : ByteArray) [.string (⟨#[66, 71, 69, 83]⟩ : ByteArray)] from rfl) (Reps.one (show Kd.M Kd.string _ _ _ (⟨#[66, 76, 69, 83]⟩ : ByteArray) [.string (⟨#[66, 76, 69, 83]⟩ : ByteArray)] from rfl) (Reps.one (show Kd.M Kd.string _ _ _ (⟨#[66, 71, 84, 83]⟩ : ByteArray) [.string (⟨#[66, 71, 84, 83]⟩ : ByteArray)] from rfl) (Reps.one (show Kd.M Kd.string _ _ _ (⟨#[66, 76, 84, 85]⟩ : ByteArray) [.string (⟨#[66, 76, 84, 85]⟩ : ByteArray)] from rfl) (Reps.one (show Kd.M Kd.string _ _ _ (⟨#[66, 71, 69, 85]⟩ : ByteArray) [.string (⟨#[66, 71, 69, 85]⟩ : ByteArray)] from rfl) (Reps.one (show Kd.M Kd.string _ _ _ (⟨#[66, 76, 69, 85]⟩ : ByteArray) [.string (⟨#[66, 76, 69, 85]⟩ : ByteArray)] from rfl) (Reps.one (show Kd.M Kd.string _ _ _ (⟨#[66, 71, 84, 85]⟩ : ByteArray) [.string (⟨#[66, 71, 84, 85]⟩ : ByteArray)] from rfl) (Reps.one (show Kd.M Kd.string _ _ _ (⟨#[74, 77, 80]⟩ : ByteArray) [.string (⟨#[74, 77, 80]⟩ : ByteArray)] from rfl) (Reps.one (show Kd.M Kd.string _ _ _ (⟨#[74, 77, 76]⟩ : ByteArray) [.string (⟨#[74, 77, 76]⟩ : ByteArray)] from rfl) (Reps.one (show Kd.M Kd.string _ _ _ (⟨#[74, 84, 65, 66]⟩ : ByteArray) [.string (⟨#[74, 84, 65, 66]⟩ : ByteArray)] from rfl) (Reps.one (show Kd.M Kd.string _ _ _ (⟨#[67, 65, 76, 76]⟩ : ByteArray) [.string (⟨#[67, 65, 76, 76]⟩ : ByteArray)] from rfl) (Reps.one (show Kd.M Kd.string _ _ _ (⟨#[82, 69, 84]⟩ : ByteArray) [.string (⟨#[82, 69, 84]⟩ : ByteArray)] from rfl) (Reps.one (show Kd.M Kd.string _ _ _ (⟨#[71, 69, 84, 67]⟩ : ByteArray) [.string (⟨#[71, 69, 84, 67]⟩ : ByteArray)] from rfl) (Reps.one (show Kd.M Kd.string _ _ _ (⟨#[80, 85, 84, 67]⟩ : ByteArray) [.string (⟨#[80, 85, 84, 67]⟩ : ByteArray)] from rfl) (Reps.one (show Kd.M Kd.string _ _ _ (⟨#[69, 88, 73, 84]⟩ : ByteArray) [.string (⟨#[69, 88, 73, 84]⟩ : ByteArray)] from rfl) (Reps.one (show Kd.M Kd.string _ _ _ (⟨#[84, 82, 65, 80]⟩ : ByteArray) [.string (⟨#[84, 82, 65, 80]⟩ : ByteArray)] from rfl) (Reps.none _ _)))))))))))))))))))))))))))))))))))))))))))))))))); intro v201 w5 ho6 hb hg_ hnew_; clear hg_ hnew_; (first | rw [← Ny200.out] at ho6 | (simp only [Int.reduceToNat] at ho6; rw [← Ny200.out] at ho6)); have n0_ := Aside0.mk (Kd.R_lower ho6 (below_size (by repeat (first | (with_reducible first | exact HB.out | apply below_alloc | apply pw_below_drewN | apply below_drew1) | exact HB.out)))); have n1_ := Aside0.mk (below_step (by repeat (first | (with_reducible first | exact HB.out | apply below_alloc | apply pw_below_drewN | apply below_drew1) | exact HB.out)) hb); clear HB; have HO202 := n0_; have HB := n1_; clear n0_ n1_; clear hb ho6; obtain ⟨Ao7, co7, eo7⟩ := Kd.R_slice HO202.out; subst eo7; have p203 : 0 ≤ ((ji2) : Int) := of_decide_eq_true (by first | (with_reducible assumption) | assumption); have q203 : (ji2) < (y200.length : Int) := of_decide_eq_true (by first | (with_reducible assumption) | assumption); obtain ⟨ad203, e203, hx203_0⟩ := Kd.at_string (Kd.R_reads' HO202.out).2.2 (ji2) p203 q203; cases e203; replace p203 := eq_true p203; replace q203 := eq_true q203))
      go_ret
      exact ⟨by first | rfl | (simp [errW_none, errW_some] <;> rfl) | (simp only [← hji2]; first | rfl | (simp [errW_none, errW_some] <;> rfl)) | (simp [*, errW_none, errW_some] <;> rfl), by repeat (first | (with_reducible first | exact HB.out | apply below_alloc | apply pw_below_drewN | apply below_drew1) | exact HB.out)⟩
    · rw [if_neg c4] at H
      exact absurd H (by simp)
  · rw [if_neg c3] at H
    exact absurd H (by simp)

end Go.Proofs.YtlhgfhmdhmgmpaaGreatDoor.PZ3

-- Written by gp.py for this claim.
namespace Go.Proofs.YtlhgfhmdhmgmpaaGreatDoor.PZ3
open Go.RowKit Go.Proofs.YtlhgfhmdhmgmpaaGreatDoorW.PrintWords Go.Proofs.YtlhgfhmdhmgmpaaGreatDoorW.PrintLast Go.Proofs.YtlhgfhmdhmgmpaaGreatDoorW.PrintMore
attribute [local go_sem] max2_int min2_int max_two min_two max_three min_three max_four min_four   -- for this text's walks alone
set_option linter.unusedVariables false
set_option linter.unusedSimpArgs false

/-! ### switchbackref22_number: function 55 -/
def switchbackref22_number.f (a0 : Int) : Option (Bool) := if a0 = 1 then (some true) else (if a0 = 4 then (some true) else (if a0 = 27 then (some true) else (if a0 = 28 then (some true) else (some (a0 == 48)))))
set_option maxHeartbeats 8000000 in
set_option maxRecDepth 100000 in
theorem switchbackref22_number.calls (a0 : Int) (r : Bool) (w : World) (h : switchbackref22_number.f a0 = some r) :
    Calls Tryz.prog 55 #[.int .i64 a0] w fun e w' => e = .returned (.bool r) ∧ Drawn0 w w' := by
  have H : (if a0 = 1 then (some true) else (if a0 = 4 then (some true) else (if a0 = 27 then (some true) else (if a0 = 28 then (some true) else (some (a0 == 48)))))) = some r := h
  clear h
  by_cases c2 : a0 = 1
  · rw [if_pos c2] at H
    have c2b0 : (a0 == 1) = true := beq_iff_eq.mpr c2
    have c2b1 : (a0 != 1) = false := bne_eq_false_iff_eq.mpr c2
    clear c2
    obtain rfl := Option.some.inj H
    go_enter Tryz.func55, Tryz.ntmps55
    go_wp2
    go_ret
    exact ⟨by first | rfl | (simp; done) | (simp [*]; done), by repeat (first | exact Drawn0.refl _ | apply Drawn0.step)⟩
  · rw [if_neg c2] at H
    have c2b0 : (a0 == 1) = false := beq_eq_false_iff_ne.mpr c2
    have c2b1 : (a0 != 1) = true := bne_iff_ne.mpr c2
    by_cases c3 : a0 = 4
    · rw [if_pos c3] at H
      have c3b0 : (a0 == 4) = true := beq_iff_eq.mpr c3
      have c3b1 : (a0 != 4) = false := bne_eq_false_iff_eq.mpr c3
      clear c3
      obtain rfl := Option.some.inj H
      go_enter Tryz.func55, Tryz.ntmps55
      go_wp2
      go_ret
      exact ⟨by first | rfl | (simp; done) | (simp [*]; done), by repeat (first | exact Drawn0.refl _ | apply Drawn0.step)⟩
    · rw [if_neg c3] at H
      have c3b0 : (a0 == 4) = false := beq_eq_false_iff_ne.mpr c3
      have c3b1 : (a0 != 4) = true := bne_iff_ne.mpr c3
      by_cases c4 : a0 = 27
      · rw [if_pos c4] at H
        have c4b0 : (a0 == 27) = true := beq_iff_eq.mpr c4
        have c4b1 : (a0 != 27) = false := bne_eq_false_iff_eq.mpr c4
        clear c4
        obtain rfl := Option.some.inj H
        go_enter Tryz.func55, Tryz.ntmps55
        go_wp2
        go_ret
        exact ⟨by first | rfl | (simp; done) | (simp [*]; done), by repeat (first | exact Drawn0.refl _ | apply Drawn0.step)⟩
      · rw [if_neg c4] at H
        have c4b0 : (a0 == 27) = false := beq_eq_false_iff_ne.mpr c4
        have c4b1 : (a0 != 27) = true := bne_iff_ne.mpr c4
        by_cases c5 : a0 = 28
        · rw [if_pos c5] at H
          have c5b0 : (a0 == 28) = true := beq_iff_eq.mpr c5
          have c5b1 : (a0 != 28) = false := bne_eq_false_iff_eq.mpr c5
          clear c5
          obtain rfl := Option.some.inj H
          go_enter Tryz.func55, Tryz.ntmps55
          go_wp2
          go_ret
          exact ⟨by first | rfl | (simp; done) | (simp [*]; done), by repeat (first | exact Drawn0.refl _ | apply Drawn0.step)⟩
        · rw [if_neg c5] at H
          have c5b0 : (a0 == 28) = false := beq_eq_false_iff_ne.mpr c5
          have c5b1 : (a0 != 28) = true := bne_iff_ne.mpr c5
          obtain rfl := Option.some.inj H
          go_enter Tryz.func55, Tryz.ntmps55
          go_wp2
          go_ret
          exact ⟨by first | rfl | (simp; done) | (simp [*]; done), by repeat (first | exact Drawn0.refl _ | apply Drawn0.step)⟩

end Go.Proofs.YtlhgfhmdhmgmpaaGreatDoor.PZ3

-- Written by gp.py for this claim.
namespace Go.Proofs.YtlhgfhmdhmgmpaaGreatDoor.PZ3
open Go.RowKit Go.Proofs.YtlhgfhmdhmgmpaaGreatDoorW.PrintWords Go.Proofs.YtlhgfhmdhmgmpaaGreatDoorW.PrintLast Go.Proofs.YtlhgfhmdhmgmpaaGreatDoorW.PrintMore
attribute [local go_sem] max2_int min2_int max_two min_two max_three min_three max_four min_four   -- for this text's walks alone
set_option linter.unusedVariables false
set_option linter.unusedSimpArgs false

/-! ### switchbackref16_Branch: function 79 -/
def switchbackref16_Branch.f (a0 : Int) : Option (Bool) := if a0 ≥ 30 then (some (decide (a0 ≤ 39))) else (some false)
set_option maxHeartbeats 8000000 in
set_option maxRecDepth 100000 in
theorem switchbackref16_Branch.calls (a0 : Int) (r : Bool) (w : World) (h : switchbackref16_Branch.f a0 = some r) :
    Calls Tryz.prog 79 #[.int .i64 a0] w fun e w' => e = .returned (.bool r) ∧ Drawn0 w w' := by
  have H : (if a0 ≥ 30 then (some (decide (a0 ≤ 39))) else (some false)) = some r := h
  clear h
  by_cases c2 : a0 ≥ 30
  · rw [if_pos c2] at H
    have c2b0 : decide (30 ≤ a0) = true := decide_eq_true c2
    clear c2
    obtain rfl := Option.some.inj H
    go_enter Tryz.func79, Tryz.ntmps79
    go_wp2
    go_ret
    exact ⟨by first | rfl | (simp; done) | (simp [*]; done), by repeat (first | exact Drawn0.refl _ | apply Drawn0.step)⟩
  · rw [if_neg c2] at H
    have c2b0 : decide (30 ≤ a0) = false := decide_eq_false c2
    clear c2
    obtain rfl := Option.some.inj H
    go_enter Tryz.func79, Tryz.ntmps79
    go_wp2
    go_ret
    exact ⟨by first | rfl | (simp; done) | (simp [*]; done), by repeat (first | exact Drawn0.refl _ | apply Drawn0.step)⟩

end Go.Proofs.YtlhgfhmdhmgmpaaGreatDoor.PZ3

-- Written by gp.py for this claim.
namespace Go.Proofs.YtlhgfhmdhmgmpaaGreatDoor.PZ3
open Go.RowKit Go.Proofs.YtlhgfhmdhmgmpaaGreatDoorW.PrintWords Go.Proofs.YtlhgfhmdhmgmpaaGreatDoorW.PrintLast Go.Proofs.YtlhgfhmdhmgmpaaGreatDoorW.PrintMore
attribute [local go_sem] max2_int min2_int max_two min_two max_three min_three max_four min_four   -- for this text's walks alone
set_option linter.unusedVariables false
set_option linter.unusedSimpArgs false

namespace q_switchbackref22_front
theorem uZ {p : Prop} (h : p) : Aside0 p := ⟨h⟩
theorem uB {p q : Prop} (h : p) (g : p → q := by intro h; repeat (first | (with_reducible first | exact h | apply below_alloc | apply pw_below_drewN | apply below_drew1) | exact h)) : q := g h
theorem zA : type_of% @List.map_toArray := @List.map_toArray
theorem zB : type_of% @List.length_drop := @List.length_drop
theorem zC : type_of% @List.length_take := @List.length_take
end q_switchbackref22_front
open q_switchbackref22_front

/-! ### switchbackref22_front: function 54 -/
mutual
def switchbackref22_front.j0 : Nat → Int → Int → Int → ByteArray → Int → Option (ByteArray)
  | 0, _, _, _, _, _ => none
  | k + 1, x0, x2, x3, x9, x10 => if x10 ≥ 2 then (if x9.size + 2 ≤ 9223372036854775807 then ((switchbackref22_Digits.f k x2).bind fun t207 => (if (x9 ++ (⟨#[32, 82]⟩ : ByteArray)).size + t207.size ≤ 9223372036854775807 then (switchbackref22_front.j1 k x0 x3 ((x9 ++ (⟨#[32, 82]⟩ : ByteArray)) ++ t207)) else (none))) else (none)) else (switchbackref22_front.j1 k x0 x3 x9)
def switchbackref22_front.j1 : Nat → Int → Int → ByteArray → Option (ByteArray)
  | 0, _, _, _ => none
  | k + 1, x0, x3, x9 => (switchbackref22_three.f x0).bind fun t208 => (if t208 = true then (if x9.size + 2 ≤ 9223372036854775807 then ((switchbackref22_Digits.f k x3).bind fun t209 => (if (x9 ++ (⟨#[32, 82]⟩ : ByteArray)).size + t209.size ≤ 9223372036854775807 then (some ((x9 ++ (⟨#[32, 82]⟩ : ByteArray)) ++ t209)) else (none))) else (none)) else (some x9))
end
def switchbackref22_front.f (k : Nat) (a0 : Int) (a1 : Int) (a2 : Int) (a3 : Int) : Option (ByteArray) := (switchbackref22_Name.f a0).bind fun t204 => ((switchbackref22_registers.f k a0).bind fun t205 => (if t205 ≥ 1 then (if t204.size + 2 ≤ 9223372036854775807 then ((switchbackref22_Digits.f k a1).bind fun t206 => (if (t204 ++ (⟨#[32, 82]⟩ : ByteArray)).size + t206.size ≤ 9223372036854775807 then (switchbackref22_front.j0 k a0 a2 a3 ((t204 ++ (⟨#[32, 82]⟩ : ByteArray)) ++ t206) t205) else (none))) else (none)) else (switchbackref22_front.j0 k a0 a2 a3 t204 t205)))
theorem switchbackref22_front.mono_l : ∀ k, (∀ y0 y1 y2 y3 y4, LeO (switchbackref22_front.j0 k y0 y1 y2 y3 y4) (switchbackref22_front.j0 (k + 1) y0 y1 y2 y3 y4)) ∧ (∀ y0 y1 y2, LeO (switchbackref22_front.j1 k y0 y1 y2) (switchbackref22_front.j1 (k + 1) y0 y1 y2))
  | 0 => ⟨fun _ _ _ _ _ r h => by simp [switchbackref22_front.j0] at h, fun _ _ _ r h => by simp [switchbackref22_front.j1] at h⟩
  | k + 1 => by
    obtain ⟨ih0, ih1⟩ := switchbackref22_front.mono_l k
    refine ⟨?_, ?_⟩
    · intro y0 y1 y2 y3 y4
      unfold switchbackref22_front.j0
      repeat' first
      | (with_reducible exact ih0 _ _ _ _ _)
      | (with_reducible exact ih1 _ _ _)
      | (with_reducible exact switchbackref22_Digits.mono _ _)
      | (with_reducible exact switchbackref22_registers.mono _ _)
      | (with_reducible exact LeO.refl _)
      | (with_reducible exact LeO.none _)
      | (with_reducible refine LeO.ite ?_ ?_)
      | (with_reducible refine LeO.bind ?_ (fun _ => ?_))
      | exact ih0 _ _ _ _ _
      | exact ih1 _ _ _
      | exact switchbackref22_Digits.mono _ _
      | exact switchbackref22_registers.mono _ _
      | exact LeO.none _
      | refine LeO.ite ?_ ?_
      | refine LeO.bind ?_ (fun _ => ?_)
    · intro y0 y1 y2
      unfold switchbackref22_front.j1
      repeat' first
      | (with_reducible exact ih0 _ _ _ _ _)
      | (with_reducible exact ih1 _ _ _)
      | (with_reducible exact switchbackref22_Digits.mono _ _)
      | (with_reducible exact switchbackref22_registers.mono _ _)
      | (with_reducible exact LeO.refl _)
      | (with_reducible exact LeO.none _)
      | (with_reducible refine LeO.ite ?_ ?_)
      | (with_reducible refine LeO.bind ?_ (fun _ => ?_))
      | exact ih0 _ _ _ _ _
      | exact ih1 _ _ _
      | exact switchbackref22_Digits.mono _ _
      | exact switchbackref22_registers.mono _ _
      | exact LeO.none _
      | refine LeO.ite ?_ ?_
      | refine LeO.bind ?_ (fun _ => ?_)
theorem switchbackref22_front.mono : ∀ a0 a1 a2 a3 k, LeO (switchbackref22_front.f k a0 a1 a2 a3) (switchbackref22_front.f (k + 1) a0 a1 a2 a3) := by
  intro a0 a1 a2 a3 k
  obtain ⟨ih0, ih1⟩ := switchbackref22_front.mono_l k
  unfold switchbackref22_front.f
  repeat' first
      | (with_reducible exact ih0 _ _ _ _ _)
      | (with_reducible exact ih1 _ _ _)
      | (with_reducible exact switchbackref22_Digits.mono _ _)
      | (with_reducible exact switchbackref22_registers.mono _ _)
      | (with_reducible exact LeO.refl _)
      | (with_reducible exact LeO.none _)
      | (with_reducible refine LeO.ite ?_ ?_)
      | (with_reducible refine LeO.bind ?_ (fun _ => ?_))
      | exact ih0 _ _ _ _ _
      | exact ih1 _ _ _
      | exact switchbackref22_Digits.mono _ _
      | exact switchbackref22_registers.mono _ _
      | exact LeO.none _
      | refine LeO.ite ?_ ?_
      | refine LeO.bind ?_ (fun _ => ?_)
set_option maxHeartbeats 8000000 in
set_option maxRecDepth 100000 in
theorem switchbackref22_front.calls (k : Nat) (a0 : Int) (a1 : Int) (a2 : Int) (a3 : Int) (r : ByteArray) (w : World) (h : switchbackref22_front.f k a0 a1 a2 a3 = some r) :
    Calls Tryz.prog 54 #[.int .i64 a0, .int .i64 a1, .int .i64 a2, .int .i64 a3] w fun e w' => e = .returned (.string r) ∧ Below w.heap.size w w' := by
 have HB := uZ (Below.refl w.heap.size w)
 have H : ((switchbackref22_Name.f a0).bind fun a5 => ((switchbackref22_registers.f k a0).bind fun a6 => (if a6 ≥ 1 then (if a5.size + 2 ≤ 9223372036854775807 then ((switchbackref22_Digits.f k a1).bind fun a7 => (if (a5 ++ (⟨#[32, 82]⟩ : ByteArray)).size + a7.size ≤ 9223372036854775807 then (switchbackref22_front.j0 k a0 a2 a3 ((a5 ++ (⟨#[32, 82]⟩ : ByteArray)) ++ a7) a6) else (none))) else (none)) else (switchbackref22_front.j0 k a0 a2 a3 a5 a6)))) = some r := h
 clear h
 replace H := Option.bind_eq_some_iff.mp H
 obtain ⟨a5, A50, H⟩ := H
 replace H : ((switchbackref22_registers.f k a0).bind fun a6 => (if a6 ≥ 1 then (if a5.size + 2 ≤ 9223372036854775807 then ((switchbackref22_Digits.f k a1).bind fun a7 => (if (a5 ++ (⟨#[32, 82]⟩ : ByteArray)).size + a7.size ≤ 9223372036854775807 then (switchbackref22_front.j0 k a0 a2 a3 ((a5 ++ (⟨#[32, 82]⟩ : ByteArray)) ++ a7) a6) else (none))) else (none)) else (switchbackref22_front.j0 k a0 a2 a3 a5 a6))) = some r := H
 have A5 := uZ A50
 clear A50
 replace H := Option.bind_eq_some_iff.mp H
 obtain ⟨a6, A60, H⟩ := H
 replace H : (if a6 ≥ 1 then (if a5.size + 2 ≤ 9223372036854775807 then ((switchbackref22_Digits.f k a1).bind fun a7 => (if (a5 ++ (⟨#[32, 82]⟩ : ByteArray)).size + a7.size ≤ 9223372036854775807 then (switchbackref22_front.j0 k a0 a2 a3 ((a5 ++ (⟨#[32, 82]⟩ : ByteArray)) ++ a7) a6) else (none))) else (none)) else (switchbackref22_front.j0 k a0 a2 a3 a5 a6)) = some r := H
 have A6 := uZ A60
 clear A60
 have HC7 := uZ H
 clear H
 go_enter Tryz.func54, Tryz.ntmps54
 go_upto_if 16 with (first | ((with_reducible refine gate_callee (f := 95) rfl ?_); refine goesL_ (some 12) rfl rfl Tryz.func95 (by kernel_rfl) rfl #[.int .i64 a0] rfl (by (try simp only [zA, List.map_cons, List.map_nil]); first | done | rfl | (simp only [zB, zC]; rfl)) ?_; (with_reducible refine (switchbackref22_Name.calls a0 a5 _ A5.out).mono ?_); rintro e w8 ⟨rfl, hb⟩; refine ⟨_, rfl, ?_⟩; have n0_ := uZ (below_step (uB HB.out) hb); clear HB; have HB := n0_; clear n0_; (try clear hb); (try clear hb2); (try clear hk); (try clear hi)) | ((with_reducible refine gate_callee (f := 67) rfl ?_); refine goesL_ (some 14) rfl rfl Tryz.func67 (by kernel_rfl) rfl #[.int .i64 a0] rfl (by (try simp only [zA, List.map_cons, List.map_nil]); first | done | rfl | (simp only [zB, zC]; rfl)) ?_; (with_reducible refine (switchbackref22_registers.calls k a0 a6 _ A6.out).mono ?_); rintro e w' ⟨rfl, ⟨nd, rfl⟩⟩; refine ⟨_, rfl, ?_⟩))
 (try simp only [Act.put, List.setIfInBounds_toArray, List.set_cons_zero, List.set_cons_succ])
 go_cut [9] (fun v9 wc => ∃ (kq : Nat) (x9_6 : ByteArray), v9 = .string x9_6 ∧ Aside0 (switchbackref22_front.j0 kq a0 a2 a3 x9_6 a6 = some r) ∧ Aside0 (kq ≤ k) ∧ Aside0 (Below w.heap.size w wc))
 case first =>
  have H := HC7.out
  clear HC7
  by_cases c9 : a6 ≥ 1
  ·rw [if_pos c9] at H
   have c9b0 : decide (1 ≤ a6) = true := decide_eq_true c9
   clear c9
   (first | rw [c9b0] | (simp only [i64_w, i32_w]; rw [c9b0]) | skip)
   by_cases c10 : a5.size + 2 ≤ 9223372036854775807
   ·rw [if_pos c10] at H
    have c10b0 := eq_true c10
    have c10b1 : decide (a5.size + 2 ≤ 9223372036854775807) = true := decide_eq_true c10
    try have c10b2 : (9223372036854775807 < a5.size + 2) = False := eq_false (Nat.not_lt.2 c10)
    replace H := Option.bind_eq_some_iff.mp H
    obtain ⟨a7, A110, H⟩ := H
    replace H : (if (a5 ++ (⟨#[32, 82]⟩ : ByteArray)).size + a7.size ≤ 9223372036854775807 then (switchbackref22_front.j0 k a0 a2 a3 ((a5 ++ (⟨#[32, 82]⟩ : ByteArray)) ++ a7) a6) else (none)) = some r := H
    have A11 := uZ A110
    clear A110
    by_cases c12 : (a5 ++ (⟨#[32, 82]⟩ : ByteArray)).size + a7.size ≤ 9223372036854775807
    ·rw [if_pos c12] at H
     have c12b0 := eq_true c12
     have c12b1 : decide ((a5 ++ (⟨#[32, 82]⟩ : ByteArray)).size + a7.size ≤ 9223372036854775807) = true := decide_eq_true c12
     try have c12b2 : (9223372036854775807 < (a5 ++ (⟨#[32, 82]⟩ : ByteArray)).size + a7.size) = False := eq_false (Nat.not_lt.2 c12)
     try (have c12b3 := c12b2; simp only [ByteArray.size_append, show (⟨#[32, 82]⟩ : ByteArray).size = 2 from rfl] at c12b3)
     have H' := uZ H
     clear H
     go_wp2_with (first | ((with_reducible refine gate_callee (f := 37) rfl ?_); refine goesL_ (some 20) rfl rfl Tryz.func37 (by kernel_rfl) rfl #[.int .i64 a1] rfl (by (try simp only [zA, List.map_cons, List.map_nil]); first | done | rfl | (simp only [zB, zC]; rfl)) ?_; (with_reducible refine (switchbackref22_Digits.calls k a1 a7 _ A11.out).mono ?_); rintro e w13 ⟨rfl, hb⟩; refine ⟨_, rfl, ?_⟩; have n0_ := uZ (below_step (uB HB.out) hb); clear HB; have HB := n0_; clear n0_; (try clear hb); (try clear hb2); (try clear hk); (try clear hi)))
     go_meet
     case rel => exact ⟨_, ((a5 ++ (⟨#[32, 82]⟩ : ByteArray)) ++ a7), (by first | rfl | (simp; done) | (simp [*]; done)), H', ⟨by first | omega | exact Nat.le_refl _⟩, ⟨uB HB.out⟩⟩
    rw [if_neg c12] at H
    exact absurd H (by simp)
   rw [if_neg c10] at H
   exact absurd H (by simp)
  rw [if_neg c9] at H
  have c9b0 : decide (1 ≤ a6) = false := decide_eq_false c9
  clear c9
  (first | rw [c9b0] | (simp only [i64_w, i32_w]; rw [c9b0]) | skip)
  have H' := uZ H
  clear H
  go_wp2
  go_meet
  case rel => exact ⟨_, (a5), (by first | rfl | (simp; done) | (simp [*]; done)), H', ⟨by first | omega | exact Nat.le_refl _⟩, ⟨uB HB.out⟩⟩
 case rest =>
  clear HC7
  try clear c1
  try clear p2
  try clear c3
  try clear c5
  try clear c6
  try clear c9
  try clear c9b0
  try clear c10
  try clear c10b0
  try clear c10b1
  try clear c10b2
  try clear c12
  try clear c12b0
  try clear c12b1
  try clear c12b2
  obtain ⟨kq, x9_6, rfl, HA, HJ6, HB⟩ := hcut
  cases kq with
  | zero => exact absurd HA.out (by simp [switchbackref22_front.j0])
  | succ kj6 =>
   have H := HA.out
   clear HA
   simp only [switchbackref22_front.j0] at H
   have HC14 := uZ H
   clear H
   go_upto_if 23 with (fail)
   go_cut [9] (fun v9 wc => ∃ (kq : Nat) (a4 : ByteArray), v9 = .string a4 ∧ Aside0 (switchbackref22_front.j1 kq a0 a3 a4 = some r) ∧ Aside0 (kq ≤ kj6) ∧ Aside0 (Below w.heap.size w wc))
   case first =>
    have H := HC14.out
    clear HC14
    by_cases c15 : a6 ≥ 2
    ·rw [if_pos c15] at H
     have c15b0 : decide (2 ≤ a6) = true := decide_eq_true c15
     clear c15
     (first | rw [c15b0] | (simp only [i64_w, i32_w]; rw [c15b0]) | skip)
     by_cases c16 : x9_6.size + 2 ≤ 9223372036854775807
     ·rw [if_pos c16] at H
      have c16b0 := eq_true c16
      have c16b1 : decide (x9_6.size + 2 ≤ 9223372036854775807) = true := decide_eq_true c16
      try have c16b2 : (9223372036854775807 < x9_6.size + 2) = False := eq_false (Nat.not_lt.2 c16)
      replace H := Option.bind_eq_some_iff.mp H
      obtain ⟨t207, A170, H⟩ := H
      replace H : (if (x9_6 ++ (⟨#[32, 82]⟩ : ByteArray)).size + t207.size ≤ 9223372036854775807 then (switchbackref22_front.j1 kj6 a0 a3 ((x9_6 ++ (⟨#[32, 82]⟩ : ByteArray)) ++ t207)) else (none)) = some r := H
      have A17 := uZ A170
      clear A170
      by_cases c18 : (x9_6 ++ (⟨#[32, 82]⟩ : ByteArray)).size + t207.size ≤ 9223372036854775807
      ·rw [if_pos c18] at H
       have c18b0 := eq_true c18
       have c18b1 : decide ((x9_6 ++ (⟨#[32, 82]⟩ : ByteArray)).size + t207.size ≤ 9223372036854775807) = true := decide_eq_true c18
       try have c18b2 : (9223372036854775807 < (x9_6 ++ (⟨#[32, 82]⟩ : ByteArray)).size + t207.size) = False := eq_false (Nat.not_lt.2 c18)
       try (have c18b3 := c18b2; simp only [ByteArray.size_append, show (⟨#[32, 82]⟩ : ByteArray).size = 2 from rfl] at c18b3)
       have H' := uZ H
       clear H
       go_wp2_with (first | ((with_reducible refine gate_callee (f := 37) rfl ?_); refine goesL_ (some 27) rfl rfl Tryz.func37 (by kernel_rfl) rfl #[.int .i64 a2] rfl (by (try simp only [zA, List.map_cons, List.map_nil]); first | done | rfl | (simp only [zB, zC]; rfl)) ?_; (with_reducible refine (switchbackref22_Digits.calls kj6 a2 t207 _ A17.out).mono ?_); rintro e w19 ⟨rfl, hb⟩; refine ⟨_, rfl, ?_⟩; have n0_ := uZ (below_step (uB HB.out) hb); clear HB; have HB := n0_; clear n0_; (try clear hb); (try clear hb2); (try clear hk); (try clear hi)))
       go_meet
       case rel => exact ⟨_, ((x9_6 ++ (⟨#[32, 82]⟩ : ByteArray)) ++ t207), (by first | rfl | (simp; done) | (simp [*]; done)), H', ⟨by have := HJ6.out; first | omega | exact Nat.le_refl _⟩, ⟨uB HB.out⟩⟩
      rw [if_neg c18] at H
      exact absurd H (by simp)
     rw [if_neg c16] at H
     exact absurd H (by simp)
    rw [if_neg c15] at H
    have c15b0 : decide (2 ≤ a6) = false := decide_eq_false c15
    clear c15
    (first | rw [c15b0] | (simp only [i64_w, i32_w]; rw [c15b0]) | skip)
    have H' := uZ H
    clear H
    go_wp2
    go_meet
    case rel => exact ⟨_, (x9_6), (by first | rfl | (simp; done) | (simp [*]; done)), H', ⟨by have := HJ6.out; first | omega | exact Nat.le_refl _⟩, ⟨uB HB.out⟩⟩
   case rest =>
    clear HC14
    try clear c1
    try clear p2
    try clear c3
    try clear c5
    try clear c6
    try clear c9
    try clear c9b0
    try clear c10
    try clear c10b0
    try clear c10b1
    try clear c10b2
    try clear c12
    try clear c12b0
    try clear c12b1
    try clear c12b2
    try clear c15
    try clear c15b0
    try clear c16
    try clear c16b0
    try clear c16b1
    try clear c16b2
    try clear c18
    try clear c18b0
    try clear c18b1
    try clear c18b2
    try clear p2
    obtain ⟨kq, a4, rfl, HA, HJ13, HB⟩ := hcut
    cases kq with
    | zero => exact absurd HA.out (by simp [switchbackref22_front.j1])
    | succ kj13 =>
     have H := HA.out
     clear HA
     simp only [switchbackref22_front.j1] at H
     replace H := Option.bind_eq_some_iff.mp H
     obtain ⟨t208, A200, H⟩ := H
     replace H : (if t208 = true then (if a4.size + 2 ≤ 9223372036854775807 then ((switchbackref22_Digits.f kj13 a3).bind fun t209 => (if (a4 ++ (⟨#[32, 82]⟩ : ByteArray)).size + t209.size ≤ 9223372036854775807 then (some ((a4 ++ (⟨#[32, 82]⟩ : ByteArray)) ++ t209)) else (none))) else (none)) else (some a4)) = some r := H
     have A20 := uZ A200
     clear A200
     by_cases c21 : t208 = true
     ·subst c21
      have H1 : (if a4.size + 2 ≤ 9223372036854775807 then ((switchbackref22_Digits.f kj13 a3).bind fun t209 => (if (a4 ++ (⟨#[32, 82]⟩ : ByteArray)).size + t209.size ≤ 9223372036854775807 then (some ((a4 ++ (⟨#[32, 82]⟩ : ByteArray)) ++ t209)) else (none))) else (none)) = some r := by rw [if_pos rfl] at H; exact H
      clear H
      have H := H1
      clear H1
      by_cases c22 : a4.size + 2 ≤ 9223372036854775807
      ·rw [if_pos c22] at H
       have c22b0 := eq_true c22
       have c22b1 : decide (a4.size + 2 ≤ 9223372036854775807) = true := decide_eq_true c22
       try have c22b2 : (9223372036854775807 < a4.size + 2) = False := eq_false (Nat.not_lt.2 c22)
       replace H := Option.bind_eq_some_iff.mp H
       obtain ⟨t209, A230, H⟩ := H
       replace H : (if (a4 ++ (⟨#[32, 82]⟩ : ByteArray)).size + t209.size ≤ 9223372036854775807 then (some ((a4 ++ (⟨#[32, 82]⟩ : ByteArray)) ++ t209)) else (none)) = some r := H
       have A23 := uZ A230
       clear A230
       by_cases c24 : (a4 ++ (⟨#[32, 82]⟩ : ByteArray)).size + t209.size ≤ 9223372036854775807
       ·rw [if_pos c24] at H
        have c24b0 := eq_true c24
        have c24b1 : decide ((a4 ++ (⟨#[32, 82]⟩ : ByteArray)).size + t209.size ≤ 9223372036854775807) = true := decide_eq_true c24
        try have c24b2 : (9223372036854775807 < (a4 ++ (⟨#[32, 82]⟩ : ByteArray)).size + t209.size) = False := eq_false (Nat.not_lt.2 c24)
        try (have c24b3 := c24b2; simp only [ByteArray.size_append, show (⟨#[32, 82]⟩ : ByteArray).size = 2 from rfl] at c24b3)
        obtain rfl := Option.some.inj H
        go_wp2_with (first | ((with_reducible refine gate_callee (f := 69) rfl ?_); refine goesL_ (some 30) rfl rfl Tryz.func69 (by kernel_rfl) rfl #[.int .i64 a0] rfl (by (try simp only [zA, List.map_cons, List.map_nil]); first | done | rfl | (simp only [zB, zC]; rfl)) ?_; (with_reducible refine (switchbackref22_three.calls a0 true _ A20.out).mono ?_); rintro e w' ⟨rfl, ⟨nd, rfl⟩⟩; refine ⟨_, rfl, ?_⟩) | ((with_reducible refine gate_callee (f := 37) rfl ?_); refine goesL_ (some 34) rfl rfl Tryz.func37 (by kernel_rfl) rfl #[.int .i64 a3] rfl (by (try simp only [zA, List.map_cons, List.map_nil]); first | done | rfl | (simp only [zB, zC]; rfl)) ?_; (with_reducible refine (switchbackref22_Digits.calls kj13 a3 t209 _ A23.out).mono ?_); rintro e w25 ⟨rfl, hb⟩; refine ⟨_, rfl, ?_⟩; have n0_ := uZ (below_step (uB HB.out) hb); clear HB; have HB := n0_; clear n0_; (try clear hb); (try clear hb2); (try clear hk); (try clear hi)))
        go_ret
        exact ⟨by first | rfl | (simp [errW_none, errW_some] <;> rfl) | (simp [*, errW_none, errW_some] <;> rfl), by repeat (first | (with_reducible first | exact HB.out | apply below_alloc | apply pw_below_drewN | apply below_drew1) | exact HB.out)⟩
       rw [if_neg c24] at H
       exact absurd H (by simp)
      rw [if_neg c22] at H
      exact absurd H (by simp)
     replace c21 := Bool.eq_false_iff.mpr c21
     subst c21
     have H1 : (some a4) = some r := by rw [if_neg (show ¬ (false = true) by decide)] at H; exact H
     clear H
     have H := H1
     clear H1
     obtain rfl := Option.some.inj H
     go_wp2_with (first | ((with_reducible refine gate_callee (f := 69) rfl ?_); refine goesL_ (some 30) rfl rfl Tryz.func69 (by kernel_rfl) rfl #[.int .i64 a0] rfl (by (try simp only [zA, List.map_cons, List.map_nil]); first | done | rfl | (simp only [zB, zC]; rfl)) ?_; (with_reducible refine (switchbackref22_three.calls a0 false _ A20.out).mono ?_); rintro e w' ⟨rfl, ⟨nd, rfl⟩⟩; refine ⟨_, rfl, ?_⟩))
     go_ret
     exact ⟨by first | rfl | (simp [errW_none, errW_some] <;> rfl) | (simp [*, errW_none, errW_some] <;> rfl), by repeat (first | (with_reducible first | exact HB.out | apply below_alloc | apply pw_below_drewN | apply below_drew1) | exact HB.out)⟩

end Go.Proofs.YtlhgfhmdhmgmpaaGreatDoor.PZ3
