/- Texts joined: PZ3x100 PZ3x101. -/
import Derived.Test.YtlhgfhmdhmgmpaaGreatDoorPZ3A
import Derived.Test.YtlhgfhmdhmgmpaaGreatDoorEncZ
namespace Go.Proofs.YtlhgfhmdhmgmpaaGreatDoor.PZ3
open Go.RowKit Go.Proofs.YtlhgfhmdhmgmpaaGreatDoorW.PrintWords Go.Proofs.YtlhgfhmdhmgmpaaGreatDoorW.PrintLast Go.Proofs.YtlhgfhmdhmgmpaaGreatDoorW.PrintMore

/-! ### switchbackref16_Decode: function 78 -/
def switchbackref16_Decode.f (a0 : Int) : Option (Int × Int × Int × Int × Int) := if 0 ≤ a0 ∧ a0 < 4294967296 then some ((decR a0).1.1, (decR a0).1.2.1, (decR a0).1.2.2.1, (decR a0).1.2.2.2, (decR a0).2) else none

theorem switchbackref16_Decode.calls (a0 : Int) (r1 : Int) (r2 : Int) (r3 : Int) (r4 : Int) (r5 : Int) (w : World) (h : switchbackref16_Decode.f a0 = some (r1, r2, r3, r4, r5)) :
    Calls Tryz.prog 78 #[.int .u32 a0] w fun e w' => e = .returned (.tuple #[.agg #[.int .i64 r1, .int .i64 r2, .int .i64 r3, .int .i64 r4], .int .i64 r5]) ∧ Below w.heap.size w w' := by
  unfold switchbackref16_Decode.f at h
  by_cases hw : 0 ≤ a0 ∧ a0 < 4294967296
  · rw [if_pos hw] at h
    simp only [Option.some.injEq, Prod.mk.injEq] at h
    obtain ⟨rfl, rfl, rfl, rfl, rfl⟩ := h
    exact decR_any a0 w hw.1 hw.2
  · rw [if_neg hw] at h
    cases h

end Go.Proofs.YtlhgfhmdhmgmpaaGreatDoor.PZ3

-- Written by gp.py for this claim.
namespace Go.Proofs.YtlhgfhmdhmgmpaaGreatDoor.PZ3
open Go.RowKit Go.Proofs.YtlhgfhmdhmgmpaaGreatDoorW.PrintWords Go.Proofs.YtlhgfhmdhmgmpaaGreatDoorW.PrintLast Go.Proofs.YtlhgfhmdhmgmpaaGreatDoorW.PrintMore
attribute [local go_sem] max2_int min2_int max_two min_two max_three min_three max_four min_four   -- for this text's walks alone
set_option linter.unusedVariables false
set_option linter.unusedSimpArgs false

namespace q_switchbackref22_shown
theorem uZ {p : Prop} (h : p) : Aside0 p := ⟨h⟩
theorem uK {p q : Prop} (h : p) (g : p → q := by intro h; (with_reducible repeat (first | apply blk_drewN | apply blk_drew | apply blk_alloc)); exact h) : q := g h
theorem uB {p q : Prop} (h : p) (g : p → q := by intro h; repeat (first | (with_reducible first | exact h | apply below_alloc | apply pw_below_drewN | apply below_drew1) | exact h)) : q := g h
theorem uC {p q s : Prop} (h : p) (j : s) (g : p → s → q := by intro h j; repeat (first | (with_reducible first | exact h | apply below_alloc | apply pw_below_drewN | apply below_drew1 | refine below_set ?_ j) | exact h)) : q := g h j
theorem zA : type_of% @pw_below_drewN := @pw_below_drewN
theorem zB : type_of% @below_alloc := @below_alloc
theorem zC : type_of% @below_drew1 := @below_drew1
theorem zD : type_of% @blk_frozen := @blk_frozen
theorem zE : type_of% @blk_cell := @blk_cell
theorem zF : type_of% @List.map_toArray := @List.map_toArray
theorem zG : type_of% @List.length_drop := @List.length_drop
theorem zH : type_of% @List.length_take := @List.length_take
end q_switchbackref22_shown
open q_switchbackref22_shown

/-! ### switchbackref22_shown: function 39 -/
def switchbackref22_shown.j0 : Nat → ByteArray → Bool → Int → Int → Int → Int → Option (ByteArray)
  | 0, _, _, _, _, _, _ => none
  | k + 1, x7, x43, x222000, x222001, x222002, x222003 => if x43 = true then (if x7.size + 1 ≤ 9223372036854775807 then ((switchbackref22_Digits.f k x222003).bind fun t225 => (if (x7 ++ (⟨#[32]⟩ : ByteArray)).size + t225.size ≤ 9223372036854775807 then (some ((x7 ++ (⟨#[32]⟩ : ByteArray)) ++ t225)) else (none))) else (none)) else (some x7)
def switchbackref22_shown.f (k : Nat) (a0 : Int) (a1 : Int) : Option (ByteArray) := if a1 = 2 then (some (⟨#[108, 105, 116, 101, 114, 97, 108]⟩ : ByteArray)) else (if a1 = 3 then (some (⟨#[116, 97, 98, 108, 101]⟩ : ByteArray)) else (if a1 = 1 then ((switchbackref16_Decode.f a0).bind fun bt216 => (if bt216.2.2.2.2 = 0 then ((switchbackref22_front.f k bt216.1 bt216.2.1 bt216.2.2.1 bt216.2.2.2.1).bind fun t222 => ((switchbackref22_number.f bt216.1).bind fun t223 => (if t223 = true then (switchbackref22_shown.j0 k t222 true bt216.1 bt216.2.1 bt216.2.2.1 bt216.2.2.2.1) else ((switchbackref16_Branch.f bt216.1).bind fun t224 => (if t224 = true then (switchbackref22_shown.j0 k t222 true bt216.1 bt216.2.1 bt216.2.2.1 bt216.2.2.2.1) else (switchbackref22_shown.j0 k t222 (bt216.1 == 40) bt216.1 bt216.2.1 bt216.2.2.1 bt216.2.2.2.1)))))) else (some (⟨#[63]⟩ : ByteArray)))) else (some (⟨#[63]⟩ : ByteArray))))
theorem switchbackref22_shown.mono_l : ∀ k, (∀ y0 y1 y2 y3 y4 y5, LeO (switchbackref22_shown.j0 k y0 y1 y2 y3 y4 y5) (switchbackref22_shown.j0 (k + 1) y0 y1 y2 y3 y4 y5))
  | 0 => fun _ _ _ _ _ _ r h => by simp [switchbackref22_shown.j0] at h
  | k + 1 => by
    have ih0 := switchbackref22_shown.mono_l k
    · intro y0 y1 y2 y3 y4 y5
      unfold switchbackref22_shown.j0
      repeat' first
      | (with_reducible exact ih0 _ _ _ _ _ _)
      | (with_reducible exact switchbackref22_Digits.mono _ _)
      | (with_reducible exact switchbackref22_front.mono _ _ _ _ _)
      | (with_reducible exact LeO.refl _)
      | (with_reducible exact LeO.none _)
      | (with_reducible refine LeO.ite ?_ ?_)
      | (with_reducible refine LeO.bind ?_ (fun _ => ?_))
      | exact ih0 _ _ _ _ _ _
      | exact switchbackref22_Digits.mono _ _
      | exact switchbackref22_front.mono _ _ _ _ _
      | exact LeO.none _
      | refine LeO.ite ?_ ?_
      | refine LeO.bind ?_ (fun _ => ?_)
theorem switchbackref22_shown.mono : ∀ a0 a1 k, LeO (switchbackref22_shown.f k a0 a1) (switchbackref22_shown.f (k + 1) a0 a1) := by
  intro a0 a1 k
  have ih0 := switchbackref22_shown.mono_l k
  unfold switchbackref22_shown.f
  repeat' first
      | (with_reducible exact ih0 _ _ _ _ _ _)
      | (with_reducible exact switchbackref22_Digits.mono _ _)
      | (with_reducible exact switchbackref22_front.mono _ _ _ _ _)
      | (with_reducible exact LeO.refl _)
      | (with_reducible exact LeO.none _)
      | (with_reducible refine LeO.ite ?_ ?_)
      | (with_reducible refine LeO.bind ?_ (fun _ => ?_))
      | exact ih0 _ _ _ _ _ _
      | exact switchbackref22_Digits.mono _ _
      | exact switchbackref22_front.mono _ _ _ _ _
      | exact LeO.none _
      | refine LeO.ite ?_ ?_
      | refine LeO.bind ?_ (fun _ => ?_)
set_option maxHeartbeats 8000000 in
set_option maxRecDepth 100000 in
theorem switchbackref22_shown.calls (k : Nat) (a0 : Int) (a1 : Int) (r : ByteArray) (w : World) (h : switchbackref22_shown.f k a0 a1 = some r) :
    Calls Tryz.prog 39 #[.int .u32 a0, .int .i64 a1] w fun e w' => e = .returned (.string r) ∧ Below w.heap.size w w' := by
 have hu99 := Tryz.underlying99
 have HB := uZ (Below.refl w.heap.size w)
 have H : (if a1 = 2 then (some (⟨#[108, 105, 116, 101, 114, 97, 108]⟩ : ByteArray)) else (if a1 = 3 then (some (⟨#[116, 97, 98, 108, 101]⟩ : ByteArray)) else (if a1 = 1 then ((switchbackref16_Decode.f a0).bind fun a8 => (if a8.2.2.2.2 = 0 then ((switchbackref22_front.f k a8.1 a8.2.1 a8.2.2.1 a8.2.2.2.1).bind fun a5 => ((switchbackref22_number.f a8.1).bind fun t223 => (if t223 = true then (switchbackref22_shown.j0 k a5 true a8.1 a8.2.1 a8.2.2.1 a8.2.2.2.1) else ((switchbackref16_Branch.f a8.1).bind fun t224 => (if t224 = true then (switchbackref22_shown.j0 k a5 true a8.1 a8.2.1 a8.2.2.1 a8.2.2.2.1) else (switchbackref22_shown.j0 k a5 (a8.1 == 40) a8.1 a8.2.1 a8.2.2.1 a8.2.2.2.1)))))) else (some (⟨#[63]⟩ : ByteArray)))) else (some (⟨#[63]⟩ : ByteArray))))) = some r := h
 clear h
 by_cases c3 : a1 = 2
 ·rw [if_pos c3] at H
  have c3b0 : (a1 == 2) = true := beq_iff_eq.mpr c3
  have c3b1 : (a1 != 2) = false := bne_eq_false_iff_eq.mpr c3
  clear c3
  obtain rfl := Option.some.inj H
  go_enter Tryz.func39, Tryz.ntmps39
  go_wp2
  go_ret
  exact ⟨by first | rfl | (simp [errW_none, errW_some] <;> rfl) | (simp [*, errW_none, errW_some] <;> rfl), by repeat (first | (with_reducible first | exact HB.out | apply zB | apply zA | apply zC) | exact HB.out)⟩
 rw [if_neg c3] at H
 have c3b0 : (a1 == 2) = false := beq_eq_false_iff_ne.mpr c3
 have c3b1 : (a1 != 2) = true := bne_iff_ne.mpr c3
 by_cases c4 : a1 = 3
 ·rw [if_pos c4] at H
  have c4b0 : (a1 == 3) = true := beq_iff_eq.mpr c4
  have c4b1 : (a1 != 3) = false := bne_eq_false_iff_eq.mpr c4
  clear c4
  obtain rfl := Option.some.inj H
  go_enter Tryz.func39, Tryz.ntmps39
  go_wp2
  go_ret
  exact ⟨by first | rfl | (simp [errW_none, errW_some] <;> rfl) | (simp [*, errW_none, errW_some] <;> rfl), by repeat (first | (with_reducible first | exact HB.out | apply zB | apply zA | apply zC) | exact HB.out)⟩
 rw [if_neg c4] at H
 have c4b0 : (a1 == 3) = false := beq_eq_false_iff_ne.mpr c4
 have c4b1 : (a1 != 3) = true := bne_iff_ne.mpr c4
 by_cases c5 : a1 = 1
 ·rw [if_pos c5] at H
  have c5b0 : (a1 == 1) = true := beq_iff_eq.mpr c5
  have c5b1 : (a1 != 1) = false := bne_eq_false_iff_eq.mpr c5
  clear c5
  replace H := Option.bind_eq_some_iff.mp H
  obtain ⟨⟨a3, a7, a9, a6, t220⟩, A60, H⟩ := H
  replace H : (if t220 = 0 then ((switchbackref22_front.f k a3 a7 a9 a6).bind fun a5 => ((switchbackref22_number.f a3).bind fun t223 => (if t223 = true then (switchbackref22_shown.j0 k a5 true a3 a7 a9 a6) else ((switchbackref16_Branch.f a3).bind fun t224 => (if t224 = true then (switchbackref22_shown.j0 k a5 true a3 a7 a9 a6) else (switchbackref22_shown.j0 k a5 (a3 == 40) a3 a7 a9 a6)))))) else (some (⟨#[63]⟩ : ByteArray))) = some r := H
  have A6 := uZ A60
  clear A60
  by_cases c7 : t220 = 0
  ·rw [if_pos c7] at H
   have c7b0 : (t220 == 0) = true := beq_iff_eq.mpr c7
   have c7b1 : (t220 != 0) = false := bne_eq_false_iff_eq.mpr c7
   clear c7
   replace H := Option.bind_eq_some_iff.mp H
   obtain ⟨a5, A80, H⟩ := H
   replace H : ((switchbackref22_number.f a3).bind fun t223 => (if t223 = true then (switchbackref22_shown.j0 k a5 true a3 a7 a9 a6) else ((switchbackref16_Branch.f a3).bind fun t224 => (if t224 = true then (switchbackref22_shown.j0 k a5 true a3 a7 a9 a6) else (switchbackref22_shown.j0 k a5 (a3 == 40) a3 a7 a9 a6))))) = some r := H
   have A8 := uZ A80
   clear A80
   have HC9 := uZ H
   clear H
   go_enter Tryz.func39, Tryz.ntmps39
   go_upto_region 11 with (first | ((with_reducible refine gate_callee (f := 78) rfl ?_); refine goesL_ (some 17) rfl rfl Tryz.func78 (by kernel_rfl) rfl #[.int .u32 a0] rfl (by (try simp only [zF, List.map_cons, List.map_nil]); first | done | rfl | (simp only [zG, zH]; rfl)) ?_; (with_reducible refine (switchbackref16_Decode.calls a0 a3 a7 a9 a6 t220 _ A6.out).mono ?_); rintro e w10 ⟨rfl, hb⟩; refine ⟨_, rfl, ?_⟩; have n0_ := uZ (below_step (uB HB.out) hb); clear HB; have HB := n0_; clear n0_; (try clear hb); (try clear hb2); (try clear hk); (try clear hi)) | ((with_reducible refine gate_dst (N := 5) rfl ?_); refine box_event ?hg (N := 5) ?hd (cs := #[.int .i64 0, .int .i64 0, .int .i64 0, .int .i64 0]) (t := 99) ?hr ?_; (case hd => rfl); (case hg => rfl); (case hr => first | (go_simp; done) | (go_simp; rfl)); intro a4 hg w11 hbox hb; have n0_ := uZ (below_step (uB HB.out) hb); have n1_ := uZ (hbox); have n2_ := uZ ((by rw [hg]; exact (below_size (uB HB.out)) : w.heap.size ≤ a4)); have n3_ := uZ ((by rw [hg]; exact (below_size (uB HB.out)) : w.heap.size ≤ a4)); clear HB; have HB := n0_; have a2 := n1_; have GW221 := n2_; have aa := n3_; clear n0_ n1_ n2_ n3_; clear hb hbox hg; have hcz12_0 : w11.cell? ⟨a4, 0, none⟩ = some (.int .i64 0) := (zE a2.out 0).trans rfl; have hcz12_1 : w11.cell? ⟨a4, 1, none⟩ = some (.int .i64 0) := (zE a2.out 1).trans rfl; have hcz12_2 : w11.cell? ⟨a4, 2, none⟩ = some (.int .i64 0) := (zE a2.out 2).trans rfl; have hcz12_3 : w11.cell? ⟨a4, 3, none⟩ = some (.int .i64 0) := (zE a2.out 3).trans rfl; have hfz12_0 := zD a2.out 0; have hfz12_1 := zD a2.out 1; have hfz12_2 := zD a2.out 2; have hfz12_3 := zD a2.out 3) | ((with_reducible refine gate_callee (f := 54) rfl ?_); refine goesL_ (some 30) rfl rfl Tryz.func54 (by kernel_rfl) rfl #[.int .i64 a3, .int .i64 a7, .int .i64 a9, .int .i64 a6] rfl (by (try simp only [zF, List.map_cons, List.map_nil]); first | done | rfl | (simp only [zG, zH]; rfl)) ?_; (with_reducible refine (switchbackref22_front.calls k a3 a7 a9 a6 a5 _ A8.out).mono ?_); rintro e w13 ⟨rfl, hb⟩; refine ⟨_, rfl, ?_⟩; have n0_ := uZ (blk_below (g := a4) (o := .cells #[.int .i64 a3, .int .i64 a7, .int .i64 a9, .int .i64 a6] 99 (0, 0)) (by (with_reducible repeat (first | apply blk_drewN | apply blk_drew | apply blk_alloc)); refine blk_put (cs := #[.int .i64 a3, .int .i64 a7, .int .i64 a9, .int .i64 0]) ?_ 3 _ rfl; (with_reducible repeat (first | apply blk_drewN | apply blk_drew | apply blk_alloc)); refine blk_put (cs := #[.int .i64 a3, .int .i64 a7, .int .i64 0, .int .i64 0]) ?_ 2 _ rfl; (with_reducible repeat (first | apply blk_drewN | apply blk_drew | apply blk_alloc)); refine blk_put (cs := #[.int .i64 a3, .int .i64 0, .int .i64 0, .int .i64 0]) ?_ 1 _ rfl; (with_reducible repeat (first | apply blk_drewN | apply blk_drew | apply blk_alloc)); refine blk_put (cs := #[.int .i64 0, .int .i64 0, .int .i64 0, .int .i64 0]) ?_ 0 _ rfl; (with_reducible repeat (first | apply blk_drewN | apply blk_drew | apply blk_alloc)); exact a2.out) hb); have n1_ := uZ (below_step (uC HB.out aa.out) hb); clear a2; clear HB; have a2 := n0_; have HB := n1_; clear n0_ n1_; (try clear hb); (try clear hb2); (try clear hk); (try clear hi)))
   (try simp only [Act.put, List.setIfInBounds_toArray, List.set_cons_zero, List.set_cons_succ])
   go_cut [43] (fun v43 wc => ∃ (kq : Nat) (x43_8 : Bool), v43 = .bool x43_8 ∧ Aside0 (switchbackref22_shown.j0 kq a5 x43_8 a3 a7 a9 a6 = some r) ∧ Aside0 (kq ≤ k) ∧ Aside0 (wc.heap[a4]? = some (.cells #[.int .i64 a3, .int .i64 a7, .int .i64 a9, .int .i64 a6] 99 (0, 0))) ∧ Aside0 (Below w.heap.size w wc))
   case first =>
    have H := HC9.out
    clear HC9
    replace H := Option.bind_eq_some_iff.mp H
    obtain ⟨t223, A140, H⟩ := H
    replace H : (if t223 = true then (switchbackref22_shown.j0 k a5 true a3 a7 a9 a6) else ((switchbackref16_Branch.f a3).bind fun t224 => (if t224 = true then (switchbackref22_shown.j0 k a5 true a3 a7 a9 a6) else (switchbackref22_shown.j0 k a5 (a3 == 40) a3 a7 a9 a6)))) = some r := H
    have A14 := uZ A140
    clear A140
    by_cases c15 : t223 = true
    ·subst c15
     have H1 : (switchbackref22_shown.j0 k a5 true a3 a7 a9 a6) = some r := by rw [if_pos rfl] at H; exact H
     clear H
     have H := H1
     clear H1
     have H' := uZ H
     clear H
     have hcz16_0 : w13.cell? ⟨a4, 0, none⟩ = some (.int .i64 a3) := (zE a2.out 0).trans rfl
     have hcz16_1 : w13.cell? ⟨a4, 1, none⟩ = some (.int .i64 a7) := (zE a2.out 1).trans rfl
     have hcz16_2 : w13.cell? ⟨a4, 2, none⟩ = some (.int .i64 a9) := (zE a2.out 2).trans rfl
     have hcz16_3 : w13.cell? ⟨a4, 3, none⟩ = some (.int .i64 a6) := (zE a2.out 3).trans rfl
     have hfz16_0 := zD a2.out 0
     have hfz16_1 := zD a2.out 1
     have hfz16_2 := zD a2.out 2
     have hfz16_3 := zD a2.out 3
     go_wp2_with (first | ((with_reducible refine gate_callee (f := 55) rfl ?_); refine goesL_ (some 33) rfl rfl Tryz.func55 (by kernel_rfl) rfl #[.int .i64 a3] rfl (by (try simp only [zF, List.map_cons, List.map_nil]); first | done | rfl | (simp only [zG, zH]; rfl)) ?_; (with_reducible refine (switchbackref22_number.calls a3 true _ A14.out).mono ?_); rintro e w' ⟨rfl, ⟨nd, rfl⟩⟩; refine ⟨_, rfl, ?_⟩))
     go_meet
     case rel => exact ⟨_, (true), (by first | rfl | (simp; done) | (simp [*]; done)), H', ⟨by first | omega | exact Nat.le_refl _⟩, ⟨uK a2.out⟩, ⟨uC HB.out aa.out⟩⟩
    replace c15 := Bool.eq_false_iff.mpr c15
    subst c15
    have H1 : ((switchbackref16_Branch.f a3).bind fun t224 => (if t224 = true then (switchbackref22_shown.j0 k a5 true a3 a7 a9 a6) else (switchbackref22_shown.j0 k a5 (a3 == 40) a3 a7 a9 a6))) = some r := by rw [if_neg (show ¬ (false = true) by decide)] at H; exact H
    clear H
    have H := H1
    clear H1
    replace H := Option.bind_eq_some_iff.mp H
    obtain ⟨t224, A170, H⟩ := H
    replace H : (if t224 = true then (switchbackref22_shown.j0 k a5 true a3 a7 a9 a6) else (switchbackref22_shown.j0 k a5 (a3 == 40) a3 a7 a9 a6)) = some r := H
    have A17 := uZ A170
    clear A170
    by_cases c18 : t224 = true
    ·subst c18
     have H1 : (switchbackref22_shown.j0 k a5 true a3 a7 a9 a6) = some r := by rw [if_pos rfl] at H; exact H
     clear H
     have H := H1
     clear H1
     have H' := uZ H
     clear H
     have hcz19_0 : w13.cell? ⟨a4, 0, none⟩ = some (.int .i64 a3) := (zE a2.out 0).trans rfl
     have hcz19_1 : w13.cell? ⟨a4, 1, none⟩ = some (.int .i64 a7) := (zE a2.out 1).trans rfl
     have hcz19_2 : w13.cell? ⟨a4, 2, none⟩ = some (.int .i64 a9) := (zE a2.out 2).trans rfl
     have hcz19_3 : w13.cell? ⟨a4, 3, none⟩ = some (.int .i64 a6) := (zE a2.out 3).trans rfl
     have hfz19_0 := zD a2.out 0
     have hfz19_1 := zD a2.out 1
     have hfz19_2 := zD a2.out 2
     have hfz19_3 := zD a2.out 3
     go_wp2_with (first | ((with_reducible refine gate_callee (f := 55) rfl ?_); refine goesL_ (some 33) rfl rfl Tryz.func55 (by kernel_rfl) rfl #[.int .i64 a3] rfl (by (try simp only [zF, List.map_cons, List.map_nil]); first | done | rfl | (simp only [zG, zH]; rfl)) ?_; (with_reducible refine (switchbackref22_number.calls a3 false _ A14.out).mono ?_); rintro e w' ⟨rfl, ⟨nd, rfl⟩⟩; refine ⟨_, rfl, ?_⟩) | (go_at_call 79; (with_reducible refine (switchbackref16_Branch.calls a3 true _ A17.out).mono ?_); rintro e w' ⟨rfl, ⟨nd, rfl⟩⟩))
     go_meet
     case rel => exact ⟨_, (true), (by first | rfl | (simp; done) | (simp [*]; done)), H', ⟨by first | omega | exact Nat.le_refl _⟩, ⟨uK a2.out⟩, ⟨uC HB.out aa.out⟩⟩
    replace c18 := Bool.eq_false_iff.mpr c18
    subst c18
    have H1 : (switchbackref22_shown.j0 k a5 (a3 == 40) a3 a7 a9 a6) = some r := by rw [if_neg (show ¬ (false = true) by decide)] at H; exact H
    clear H
    have H := H1
    clear H1
    have H' := uZ H
    clear H
    have hcz20_0 : w13.cell? ⟨a4, 0, none⟩ = some (.int .i64 a3) := (zE a2.out 0).trans rfl
    have hcz20_1 : w13.cell? ⟨a4, 1, none⟩ = some (.int .i64 a7) := (zE a2.out 1).trans rfl
    have hcz20_2 : w13.cell? ⟨a4, 2, none⟩ = some (.int .i64 a9) := (zE a2.out 2).trans rfl
    have hcz20_3 : w13.cell? ⟨a4, 3, none⟩ = some (.int .i64 a6) := (zE a2.out 3).trans rfl
    have hfz20_0 := zD a2.out 0
    have hfz20_1 := zD a2.out 1
    have hfz20_2 := zD a2.out 2
    have hfz20_3 := zD a2.out 3
    go_wp2_with (first | ((with_reducible refine gate_callee (f := 55) rfl ?_); refine goesL_ (some 33) rfl rfl Tryz.func55 (by kernel_rfl) rfl #[.int .i64 a3] rfl (by (try simp only [zF, List.map_cons, List.map_nil]); first | done | rfl | (simp only [zG, zH]; rfl)) ?_; (with_reducible refine (switchbackref22_number.calls a3 false _ A14.out).mono ?_); rintro e w' ⟨rfl, ⟨nd, rfl⟩⟩; refine ⟨_, rfl, ?_⟩) | (go_at_call 79; (with_reducible refine (switchbackref16_Branch.calls a3 false _ A17.out).mono ?_); rintro e w' ⟨rfl, ⟨nd, rfl⟩⟩))
    go_meet
    case rel => exact ⟨_, ((a3 == 40)), (by first | rfl | (simp; done) | (simp [*]; done)), H', ⟨by first | omega | exact Nat.le_refl _⟩, ⟨uK a2.out⟩, ⟨uC HB.out aa.out⟩⟩
   case rest =>
    clear HC9
    try clear c1
    try clear p2
    try clear c3
    try clear c3b0
    try clear c3b1
    try clear c4
    try clear c4b0
    try clear c4b1
    try clear c5
    try clear c5b0
    try clear c5b1
    try clear c7
    try clear c7b0
    try clear c7b1
    try clear c15
    try clear c18
    try clear hcz12_0
    try clear hcz12_1
    try clear hcz12_2
    try clear hcz12_3
    try clear hcz16_0
    try clear hcz16_1
    try clear hcz16_2
    try clear hcz16_3
    try clear hcz19_0
    try clear hcz19_1
    try clear hcz19_2
    try clear hcz19_3
    try clear hcz20_0
    try clear hcz20_1
    try clear hcz20_2
    try clear hcz20_3
    try clear hfz12_0
    try clear hfz12_1
    try clear hfz12_2
    try clear hfz12_3
    try clear hfz16_0
    try clear hfz16_1
    try clear hfz16_2
    try clear hfz16_3
    try clear hfz19_0
    try clear hfz19_1
    try clear hfz19_2
    try clear hfz19_3
    try clear hfz20_0
    try clear hfz20_1
    try clear hfz20_2
    try clear hfz20_3
    obtain ⟨kq, x43_8, rfl, HA, HJ8, a2, HB⟩ := hcut
    cases kq with
    | zero => exact absurd HA.out (by simp [switchbackref22_shown.j0])
    | succ kj8 =>
     have H := HA.out
     clear HA
     simp only [switchbackref22_shown.j0] at H
     by_cases c21 : x43_8 = true
     ·subst c21
      have H1 : (if a5.size + 1 ≤ 9223372036854775807 then ((switchbackref22_Digits.f kj8 a6).bind fun t225 => (if (a5 ++ (⟨#[32]⟩ : ByteArray)).size + t225.size ≤ 9223372036854775807 then (some ((a5 ++ (⟨#[32]⟩ : ByteArray)) ++ t225)) else (none))) else (none)) = some r := by rw [if_pos rfl] at H; exact H
      clear H
      have H := H1
      clear H1
      by_cases c22 : a5.size + 1 ≤ 9223372036854775807
      ·rw [if_pos c22] at H
       have c22b0 := eq_true c22
       have c22b1 : decide (a5.size + 1 ≤ 9223372036854775807) = true := decide_eq_true c22
       try have c22b2 : (9223372036854775807 < a5.size + 1) = False := eq_false (Nat.not_lt.2 c22)
       replace H := Option.bind_eq_some_iff.mp H
       obtain ⟨t225, A230, H⟩ := H
       replace H : (if (a5 ++ (⟨#[32]⟩ : ByteArray)).size + t225.size ≤ 9223372036854775807 then (some ((a5 ++ (⟨#[32]⟩ : ByteArray)) ++ t225)) else (none)) = some r := H
       have A23 := uZ A230
       clear A230
       by_cases c24 : (a5 ++ (⟨#[32]⟩ : ByteArray)).size + t225.size ≤ 9223372036854775807
       ·rw [if_pos c24] at H
        have c24b0 := eq_true c24
        have c24b1 : decide ((a5 ++ (⟨#[32]⟩ : ByteArray)).size + t225.size ≤ 9223372036854775807) = true := decide_eq_true c24
        try have c24b2 : (9223372036854775807 < (a5 ++ (⟨#[32]⟩ : ByteArray)).size + t225.size) = False := eq_false (Nat.not_lt.2 c24)
        try (have c24b3 := c24b2; simp only [ByteArray.size_append, show (⟨#[32]⟩ : ByteArray).size = 1 from rfl] at c24b3)
        obtain rfl := Option.some.inj H
        have hcz25_0 : wc.cell? ⟨a4, 0, none⟩ = some (.int .i64 a3) := (zE a2.out 0).trans rfl
        have hcz25_1 : wc.cell? ⟨a4, 1, none⟩ = some (.int .i64 a7) := (zE a2.out 1).trans rfl
        have hcz25_2 : wc.cell? ⟨a4, 2, none⟩ = some (.int .i64 a9) := (zE a2.out 2).trans rfl
        have hcz25_3 : wc.cell? ⟨a4, 3, none⟩ = some (.int .i64 a6) := (zE a2.out 3).trans rfl
        have hfz25_0 := zD a2.out 0
        have hfz25_1 := zD a2.out 1
        have hfz25_2 := zD a2.out 2
        have hfz25_3 := zD a2.out 3
        go_wp2_with (first | ((with_reducible refine gate_callee (f := 37) rfl ?_); refine goesL_ (some 48) rfl rfl Tryz.func37 (by kernel_rfl) rfl #[.int .i64 a6] rfl (by (try simp only [zF, List.map_cons, List.map_nil]); first | done | rfl | (simp only [zG, zH]; rfl)) ?_; (with_reducible refine (switchbackref22_Digits.calls kj8 a6 t225 _ A23.out).mono ?_); rintro e w26 ⟨rfl, hb⟩; refine ⟨_, rfl, ?_⟩; have n0_ := uZ (blk_below (g := a4) (o := .cells #[.int .i64 a3, .int .i64 a7, .int .i64 a9, .int .i64 a6] 99 (0, 0)) (uK a2.out) hb); have n1_ := uZ (below_step (uC HB.out aa.out) hb); clear a2; clear HB; have a2 := n0_; have HB := n1_; clear n0_ n1_; (try clear hb); (try clear hb2); (try clear hk); (try clear hi)))
        go_ret
        exact ⟨by first | rfl | (simp [errW_none, errW_some] <;> rfl) | (simp [*, errW_none, errW_some] <;> rfl), by repeat (first | (with_reducible first | exact HB.out | apply zB | apply zA | apply zC | refine below_set ?_ aa.out) | exact HB.out)⟩
       rw [if_neg c24] at H
       exact absurd H (by simp)
      rw [if_neg c22] at H
      exact absurd H (by simp)
     replace c21 := Bool.eq_false_iff.mpr c21
     subst c21
     have H1 : (some a5) = some r := by rw [if_neg (show ¬ (false = true) by decide)] at H; exact H
     clear H
     have H := H1
     clear H1
     obtain rfl := Option.some.inj H
     go_wp2
     go_ret
     exact ⟨by first | rfl | (simp [errW_none, errW_some] <;> rfl) | (simp [*, errW_none, errW_some] <;> rfl), by repeat (first | (with_reducible first | exact HB.out | apply zB | apply zA | apply zC | refine below_set ?_ aa.out) | exact HB.out)⟩
  rw [if_neg c7] at H
  have c7b0 : (t220 == 0) = false := beq_eq_false_iff_ne.mpr c7
  have c7b1 : (t220 != 0) = true := bne_iff_ne.mpr c7
  obtain rfl := Option.some.inj H
  go_enter Tryz.func39, Tryz.ntmps39
  go_wp2_with (first | ((with_reducible refine gate_callee (f := 78) rfl ?_); refine goesL_ (some 17) rfl rfl Tryz.func78 (by kernel_rfl) rfl #[.int .u32 a0] rfl (by (try simp only [zF, List.map_cons, List.map_nil]); first | done | rfl | (simp only [zG, zH]; rfl)) ?_; (with_reducible refine (switchbackref16_Decode.calls a0 a3 a7 a9 a6 t220 _ A6.out).mono ?_); rintro e w27 ⟨rfl, hb⟩; refine ⟨_, rfl, ?_⟩; have n0_ := uZ (below_step (uB HB.out) hb); clear HB; have HB := n0_; clear n0_; (try clear hb); (try clear hb2); (try clear hk); (try clear hi)) | ((with_reducible refine gate_dst (N := 5) rfl ?_); refine box_event ?hg (N := 5) ?hd (cs := #[.int .i64 0, .int .i64 0, .int .i64 0, .int .i64 0]) (t := 99) ?hr ?_; (case hd => rfl); (case hg => rfl); (case hr => first | (go_simp; done) | (go_simp; rfl)); intro a4 hg w28 hbox hb; have n0_ := uZ (below_step (uB HB.out) hb); have n1_ := uZ (hbox); have n2_ := uZ ((by rw [hg]; exact (below_size (uB HB.out)) : w.heap.size ≤ a4)); have n3_ := uZ ((by rw [hg]; exact (below_size (uB HB.out)) : w.heap.size ≤ a4)); clear HB; have HB := n0_; have a2 := n1_; have GW221 := n2_; have aa := n3_; clear n0_ n1_ n2_ n3_; clear hb hbox hg; have hcz29_0 : w28.cell? ⟨a4, 0, none⟩ = some (.int .i64 0) := (zE a2.out 0).trans rfl; have hcz29_1 : w28.cell? ⟨a4, 1, none⟩ = some (.int .i64 0) := (zE a2.out 1).trans rfl; have hcz29_2 : w28.cell? ⟨a4, 2, none⟩ = some (.int .i64 0) := (zE a2.out 2).trans rfl; have hcz29_3 : w28.cell? ⟨a4, 3, none⟩ = some (.int .i64 0) := (zE a2.out 3).trans rfl; have hfz29_0 := zD a2.out 0; have hfz29_1 := zD a2.out 1; have hfz29_2 := zD a2.out 2; have hfz29_3 := zD a2.out 3))
  go_ret
  exact ⟨by first | rfl | (simp [errW_none, errW_some] <;> rfl) | (simp [*, errW_none, errW_some] <;> rfl), by repeat (first | (with_reducible first | exact HB.out | apply zB | apply zA | apply zC | refine below_set ?_ aa.out) | exact HB.out)⟩
 rw [if_neg c5] at H
 have c5b0 : (a1 == 1) = false := beq_eq_false_iff_ne.mpr c5
 have c5b1 : (a1 != 1) = true := bne_iff_ne.mpr c5
 obtain rfl := Option.some.inj H
 go_enter Tryz.func39, Tryz.ntmps39
 go_wp2
 go_ret
 exact ⟨by first | rfl | (simp [errW_none, errW_some] <;> rfl) | (simp [*, errW_none, errW_some] <;> rfl), by repeat (first | (with_reducible first | exact HB.out | apply zB | apply zA | apply zC) | exact HB.out)⟩

end Go.Proofs.YtlhgfhmdhmgmpaaGreatDoor.PZ3
