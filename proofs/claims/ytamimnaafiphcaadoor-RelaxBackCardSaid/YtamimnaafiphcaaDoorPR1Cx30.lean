-- Written by gp.py for this claim.
import Derived.Test.YtamimnaafiphcaaDoorPR1CZ
namespace Go.Proofs.YtamimnaafiphcaaDoor.PR1C
open Go.RowKit Go.Proofs.YtamimnaafiphcaaDoorW.PrintWords Go.Proofs.YtamimnaafiphcaaDoorW.PrintLast Go.Proofs.YtamimnaafiphcaaDoorW.PrintMore
attribute [local go_sem] max2_int min2_int max_two min_two max_three min_three max_four min_four   -- for this text's walks alone
set_option linter.unusedVariables false
set_option linter.unusedSimpArgs false

namespace q_switchbacklaw17_at
theorem uZ {p : Prop} (h : p) : Aside0 p := ⟨h⟩
theorem uK {p q : Prop} (h : p) (g : p → q := by intro h; (with_reducible repeat (first | apply blk_drewN | apply blk_drew | apply blk_alloc)); exact h) : q := g h
theorem uC {p q s : Prop} (h : p) (j : s) (g : p → s → q := by intro h j; repeat (first | (with_reducible first | exact h | apply below_alloc | apply pw_below_drewN | apply below_drew1 | refine below_set ?_ j) | exact h)) : q := g h j
theorem uA {p : Prop} [Decidable p] (h : decide p = true := by first | (with_reducible assumption) | assumption) : p := of_decide_eq_true h
theorem zA : type_of% @pw_below_drewN := @pw_below_drewN
theorem zB : type_of% @World.block_lt_of_cell? := @World.block_lt_of_cell?
end q_switchbacklaw17_at
open q_switchbacklaw17_at

/-! ### switchbacklaw17_at: function 52 -/
def switchbacklaw17_at.l0 : Nat → List (S40) → Int → Int → List Int → List Int → List Int → Int → Option (Int)
  | 0, _, _, _, _, _, _, _ => none
  | k + 1, x0, x2, x7, x168000, x168001, x168002, x168003 => if x7 < (x0.length : Int) then (if 0 ≤ x7 then (if ((rd_T40 x0 x7).f0) = 0 then (if ((rd_T40 x0 x7).f5) = x2 then (if x7 < (x168002.length : Int) then (some (rd x168002 x7)) else (none)) else (switchbacklaw17_at.l0 k x0 x2 (wrap64 (x7 + 1)) x168000 x168001 x168002 x168003)) else (switchbacklaw17_at.l0 k x0 x2 (wrap64 (x7 + 1)) x168000 x168001 x168002 x168003)) else (none)) else (some (-1))
def switchbacklaw17_at.f (k : Nat) (l0 : List (S40)) (l1_0 : List Int) (l1_1 : List Int) (l1_2 : List Int) (a1_3 : Int) (a2 : Int) : Option (Int) := switchbacklaw17_at.l0 k l0 a2 0 l1_0 l1_1 l1_2 a1_3
theorem switchbacklaw17_at.mono_l : ∀ k, (∀ y0 y1 y2 y3 y4 y5 y6, LeO (switchbacklaw17_at.l0 k y0 y1 y2 y3 y4 y5 y6) (switchbacklaw17_at.l0 (k + 1) y0 y1 y2 y3 y4 y5 y6))
  | 0 => fun _ _ _ _ _ _ _ r h => by simp [switchbacklaw17_at.l0] at h
  | k + 1 => by
    have ih0 := switchbacklaw17_at.mono_l k
    · intro y0 y1 y2 y3 y4 y5 y6
      unfold switchbacklaw17_at.l0
      repeat' first
      | (with_reducible exact ih0 _ _ _ _ _ _ _)
      | (with_reducible exact LeO.refl _)
      | (with_reducible exact LeO.none _)
      | (with_reducible refine LeO.ite ?_ ?_)
      | (with_reducible refine LeO.bind ?_ (fun _ => ?_))
      | exact ih0 _ _ _ _ _ _ _
      | exact LeO.none _
      | refine LeO.ite ?_ ?_
      | refine LeO.bind ?_ (fun _ => ?_)
theorem switchbacklaw17_at.mono : ∀ a0 a1 a2 a3 a4 a5 k, LeO (switchbacklaw17_at.f k a0 a1 a2 a3 a4 a5) (switchbacklaw17_at.f (k + 1) a0 a1 a2 a3 a4 a5) := by
  intro a0 a1 a2 a3 a4 a5 k
  have ih0 := switchbacklaw17_at.mono_l k
  unfold switchbacklaw17_at.f
  repeat' first
      | (with_reducible exact ih0 _ _ _ _ _ _ _)
      | (with_reducible exact LeO.refl _)
      | (with_reducible exact LeO.none _)
      | (with_reducible refine LeO.ite ?_ ?_)
      | (with_reducible refine LeO.bind ?_ (fun _ => ?_))
      | exact ih0 _ _ _ _ _ _ _
      | exact LeO.none _
      | refine LeO.ite ?_ ?_
      | refine LeO.bind ?_ (fun _ => ?_)
set_option maxHeartbeats 8000000 in
set_option maxRecDepth 100000 in
theorem switchbacklaw17_at.calls (k : Nat) (A0 : Option Addr) (c0 : Nat) (l0 : List (S40)) (A1_0 : Option Addr) (c1_0 : Nat) (l1_0 : List Int) (A1_1 : Option Addr) (c1_1 : Nat) (l1_1 : List Int) (A1_2 : Option Addr) (c1_2 : Nat) (l1_2 : List Int) (a1_3 : Int) (a2 : Int) (r : Int) (w : World) (hr0 : Kd.C k40 w A0 l0.length l0) (hc0 : l0.length ≤ c0) (hr1_0 : Kd.C (Kd.int .u32) w A1_0 l1_0.length l1_0) (hc1_0 : l1_0.length ≤ c1_0) (hr1_1 : Kd.C (Kd.int .i64) w A1_1 l1_1.length l1_1) (hc1_1 : l1_1.length ≤ c1_1) (hr1_2 : Kd.C (Kd.int .i64) w A1_2 l1_2.length l1_2) (hc1_2 : l1_2.length ≤ c1_2) (h : switchbacklaw17_at.f k l0 l1_0 l1_1 l1_2 a1_3 a2 = some r) :
    Calls Tryd.prog 52 #[.slice A0 l0.length c0, .agg #[.slice A1_0 l1_0.length c1_0, .slice A1_1 l1_1.length c1_1, .slice A1_2 l1_2.length c1_2, .int .i64 a1_3], .int .i64 a2] w fun e w' => e = .returned (.int .i64 r) ∧ Below w.heap.size w w' := by
 have hu27 := Tryd.underlying27
 have HR0 := uZ hr0
 have HC0 := uZ hc0
 clear hr0 hc0
 have HR1_0 := uZ hr1_0
 have HC1_0 := uZ hc1_0
 clear hr1_0 hc1_0
 have HR1_1 := uZ hr1_1
 have HC1_1 := uZ hc1_1
 clear hr1_1 hc1_1
 have HR1_2 := uZ hr1_2
 have HC1_2 := uZ hc1_2
 clear hr1_2 hc1_2
 have HB := uZ (Below.refl w.heap.size w)
 have H : (switchbacklaw17_at.l0 k l0 a2 0 l1_0 l1_1 l1_2 a1_3) = some r := h
 clear h
 have H' := uZ H
 clear H
 go_enter Tryd.func52, Tryd.ntmps52
 go_wp2_with (first | ((with_reducible refine gate_dst (N := 4) rfl ?_); refine box_event ?hg (N := 4) ?hd (cs := #[.slice A1_0 l1_0.length c1_0, .slice A1_1 l1_1.length c1_1, .slice A1_2 l1_2.length c1_2, .int .i64 a1_3]) (t := 27) ?hr ?_; (case hd => rfl); (case hg => rfl); (case hr => first | (go_simp; done) | (go_simp; rfl)); intro gb167 hg w4 hbox hb; have n0_ := uZ (below_step (by repeat (first | (with_reducible first | exact HB.out | apply below_alloc | apply zA | apply below_drew1) | exact HB.out)) hb); have n1_ := uZ (hbox); have n2_ := uZ ((by rw [hg]; exact (below_size (by repeat (first | (with_reducible first | exact HB.out | apply below_alloc | apply zA | apply below_drew1) | exact HB.out))) : w.heap.size ≤ gb167)); have n3_ := uZ ((by rw [hg]; exact (below_size (by repeat (first | (with_reducible first | exact HB.out | apply below_alloc | apply zA | apply below_drew1) | exact HB.out))) : w.heap.size ≤ gb167)); clear HB; have HB := n0_; have al := n1_; have GW167 := n2_; have GE167 := n3_; clear n0_ n1_ n2_ n3_; clear hb hbox hg))
 go_loopg [7] k (fun kq v7 w' => ∃ (a6 : Int), v7 = .int .i64 a6 ∧ Aside0 (switchbacklaw17_at.l0 kq l0 a2 a6 l1_0 l1_1 l1_2 a1_3 = some r) ∧ Aside0 (kq ≤ k) ∧ Aside0 (w'.heap[gb167]? = some (.cells #[(.slice A1_0 l1_0.length c1_0), (.slice A1_1 l1_1.length c1_1), (.slice A1_2 l1_2.length c1_2), .int .i64 a1_3] 27 (0, 0))) ∧ Aside0 (Below w.heap.size w w'))
 case atStart => exact ⟨(0), (by first | rfl | (simp; done) | (simp [*]; done)), H', ⟨Nat.le_refl _⟩, ⟨uK al.out⟩, ⟨uC HB.out GE167.out⟩⟩
 case round =>
  clear H'
  try clear c1
  try clear p2
  obtain ⟨a6, rfl, HA, HK1, al, HB⟩ := hrel
  cases gk with
  | zero => exact absurd HA.out (by simp [switchbacklaw17_at.l0])
  | succ k1 =>
   have H := HA.out
   clear HA
   simp only [switchbacklaw17_at.l0] at H
   by_cases c5 : a6 < (l0.length : Int)
   ·rw [if_pos c5] at H
    have c5b0 : decide (a6 < (l0.length : Int)) = true := decide_eq_true c5
    clear c5
    by_cases c6 : 0 ≤ a6
    ·rw [if_pos c6] at H
     have c6b0 : decide (0 ≤ a6) = true := decide_eq_true c6
     clear c6
     by_cases c7 : ((rd_T40 l0 a6).f0) = 0
     ·rw [if_pos c7] at H
      have c7b0 : (((rd_T40 l0 a6).f0) == 0) = true := beq_iff_eq.mpr c7
      have c7b1 : (((rd_T40 l0 a6).f0) != 0) = false := bne_eq_false_iff_eq.mpr c7
      clear c7
      by_cases c8 : ((rd_T40 l0 a6).f5) = a2
      ·rw [if_pos c8] at H
       have c8b0 : (((rd_T40 l0 a6).f5) == a2) = true := beq_iff_eq.mpr c8
       have c8b1 : (((rd_T40 l0 a6).f5) != a2) = false := bne_eq_false_iff_eq.mpr c8
       clear c8
       by_cases c9 : a6 < (l1_2.length : Int)
       ·rw [if_pos c9] at H
        have c9b0 : decide (a6 < (l1_2.length : Int)) = true := decide_eq_true c9
        clear c9
        obtain rfl := Option.some.inj H
        have p168 : 0 ≤ (a6 : Int) := uA
        have q168 : a6 < (l0.length : Int) := uA
        obtain ⟨ad168, A168_6, c168_6, e168, a8, a9, aa, ab, ac, ad, a7, hl168_6, hi168_6⟩ := at_T40 HR0.out a6 p168 q168
        cases e168
        replace a8 := (HB.out.cell (zB w _ a8)).trans a8
        replace a9 := (HB.out.cell (zB w _ a9)).trans a9
        replace aa := (HB.out.cell (zB w _ aa)).trans aa
        replace ab := (HB.out.cell (zB w _ ab)).trans ab
        replace ac := (HB.out.cell (zB w _ ac)).trans ac
        replace ad := (HB.out.cell (zB w _ ad)).trans ad
        replace a7 := (HB.out.cell (zB w _ a7)).trans a7
        have HR168_6 := uZ hi168_6
        have HC168_6 := uZ hl168_6
        clear hi168_6 hl168_6
        replace p168 := eq_true p168
        replace q168 := eq_true q168
        have p169 : 0 ≤ (a6 : Int) := uA
        have q169 : a6 < (l0.length : Int) := uA
        obtain ⟨ad169, A169_6, c169_6, e169, af, ag, ah, ai, aj, ak, ae, hl169_6, hi169_6⟩ := at_T40 HR0.out a6 p169 q169
        obtain rfl : ad168 = ad169 := (by injection e169)
        replace af := (HB.out.cell (zB w _ af)).trans af
        replace ag := (HB.out.cell (zB w _ ag)).trans ag
        replace ah := (HB.out.cell (zB w _ ah)).trans ah
        replace ai := (HB.out.cell (zB w _ ai)).trans ai
        replace aj := (HB.out.cell (zB w _ aj)).trans aj
        replace ak := (HB.out.cell (zB w _ ak)).trans ak
        replace ae := (HB.out.cell (zB w _ ae)).trans ae
        have HR169_6 := uZ hi169_6
        have HC169_6 := uZ hl169_6
        clear hi169_6 hl169_6
        replace p169 := eq_true p169
        replace q169 := eq_true q169
        have ea_ := Option.some.inj (a7.symm.trans ae)
        injection ea_ with ea_ en_ ec_
        subst ea_
        subst ec_
        clear en_
        have hcz10_0 : wr.cell? ⟨gb167, 0, none⟩ = some (.slice A1_0 l1_0.length c1_0) := (blk_cell al.out 0).trans rfl
        have hcz10_1 : wr.cell? ⟨gb167, 1, none⟩ = some (.slice A1_1 l1_1.length c1_1) := (blk_cell al.out 1).trans rfl
        have hcz10_2 : wr.cell? ⟨gb167, 2, none⟩ = some (.slice A1_2 l1_2.length c1_2) := (blk_cell al.out 2).trans rfl
        have hcz10_3 : wr.cell? ⟨gb167, 3, none⟩ = some (.int .i64 a1_3) := (blk_cell al.out 3).trans rfl
        have hfz10_0 := blk_frozen al.out 0
        have hfz10_1 := blk_frozen al.out 1
        have hfz10_2 := blk_frozen al.out 2
        have hfz10_3 := blk_frozen al.out 3
        have p170 : 0 ≤ (a6 : Int) := uA
        have q170 : a6 < (l1_2.length : Int) := uA
        obtain ⟨ad170, e170, hx170_0⟩ := Kd.at_int HR1_2.out a6 p170 q170
        cases e170
        replace hx170_0 := (HB.out.cell (zB w _ hx170_0)).trans hx170_0
        replace p170 := eq_true p170
        replace q170 := eq_true q170
        go_wp2
        go_ret
        exact ⟨by first | rfl | (simp [errW_none, errW_some] <;> rfl) | (simp [*, errW_none, errW_some] <;> rfl), by repeat (first | (with_reducible first | exact HB.out | apply below_alloc | apply zA | apply below_drew1 | refine below_set ?_ GE167.out) | exact HB.out)⟩
       rw [if_neg c9] at H
       exact absurd H (by simp)
      rw [if_neg c8] at H
      have c8b0 : (((rd_T40 l0 a6).f5) == a2) = false := beq_eq_false_iff_ne.mpr c8
      have c8b1 : (((rd_T40 l0 a6).f5) != a2) = true := bne_iff_ne.mpr c8
      have H' := uZ H
      clear H
      have p168 : 0 ≤ (a6 : Int) := uA
      have q168 : a6 < (l0.length : Int) := uA
      obtain ⟨ad168, A168_6, c168_6, e168, a8, a9, aa, ab, ac, ad, a7, hl168_6, hi168_6⟩ := at_T40 HR0.out a6 p168 q168
      cases e168
      replace a8 := (HB.out.cell (zB w _ a8)).trans a8
      replace a9 := (HB.out.cell (zB w _ a9)).trans a9
      replace aa := (HB.out.cell (zB w _ aa)).trans aa
      replace ab := (HB.out.cell (zB w _ ab)).trans ab
      replace ac := (HB.out.cell (zB w _ ac)).trans ac
      replace ad := (HB.out.cell (zB w _ ad)).trans ad
      replace a7 := (HB.out.cell (zB w _ a7)).trans a7
      have HR168_6 := uZ hi168_6
      have HC168_6 := uZ hl168_6
      clear hi168_6 hl168_6
      replace p168 := eq_true p168
      replace q168 := eq_true q168
      have p169 : 0 ≤ (a6 : Int) := uA
      have q169 : a6 < (l0.length : Int) := uA
      obtain ⟨ad169, A169_6, c169_6, e169, af, ag, ah, ai, aj, ak, ae, hl169_6, hi169_6⟩ := at_T40 HR0.out a6 p169 q169
      obtain rfl : ad168 = ad169 := (by injection e169)
      replace af := (HB.out.cell (zB w _ af)).trans af
      replace ag := (HB.out.cell (zB w _ ag)).trans ag
      replace ah := (HB.out.cell (zB w _ ah)).trans ah
      replace ai := (HB.out.cell (zB w _ ai)).trans ai
      replace aj := (HB.out.cell (zB w _ aj)).trans aj
      replace ak := (HB.out.cell (zB w _ ak)).trans ak
      replace ae := (HB.out.cell (zB w _ ae)).trans ae
      have HR169_6 := uZ hi169_6
      have HC169_6 := uZ hl169_6
      clear hi169_6 hl169_6
      replace p169 := eq_true p169
      replace q169 := eq_true q169
      have ea_ := Option.some.inj (a7.symm.trans ae)
      injection ea_ with ea_ en_ ec_
      subst ea_
      subst ec_
      clear en_
      go_wp2
      go_roundg k1
      case measure => have := HK1.out; omega
      case rel => exact ⟨(wrap64 (a6 + 1)), (by first | rfl | (simp; done) | (simp [*]; done)), H', ⟨by have := HK1.out; omega⟩, ⟨uK al.out⟩, ⟨uC HB.out GE167.out⟩⟩
     rw [if_neg c7] at H
     have c7b0 : (((rd_T40 l0 a6).f0) == 0) = false := beq_eq_false_iff_ne.mpr c7
     have c7b1 : (((rd_T40 l0 a6).f0) != 0) = true := bne_iff_ne.mpr c7
     have H' := uZ H
     clear H
     have p168 : 0 ≤ (a6 : Int) := uA
     have q168 : a6 < (l0.length : Int) := uA
     obtain ⟨ad168, A168_6, c168_6, e168, a8, a9, aa, ab, ac, ad, a7, hl168_6, hi168_6⟩ := at_T40 HR0.out a6 p168 q168
     cases e168
     replace a8 := (HB.out.cell (zB w _ a8)).trans a8
     replace a9 := (HB.out.cell (zB w _ a9)).trans a9
     replace aa := (HB.out.cell (zB w _ aa)).trans aa
     replace ab := (HB.out.cell (zB w _ ab)).trans ab
     replace ac := (HB.out.cell (zB w _ ac)).trans ac
     replace ad := (HB.out.cell (zB w _ ad)).trans ad
     replace a7 := (HB.out.cell (zB w _ a7)).trans a7
     have HR168_6 := uZ hi168_6
     have HC168_6 := uZ hl168_6
     clear hi168_6 hl168_6
     replace p168 := eq_true p168
     replace q168 := eq_true q168
     go_wp2
     go_roundg k1
     case measure => have := HK1.out; omega
     case rel => exact ⟨(wrap64 (a6 + 1)), (by first | rfl | (simp; done) | (simp [*]; done)), H', ⟨by have := HK1.out; omega⟩, ⟨uK al.out⟩, ⟨uC HB.out GE167.out⟩⟩
    rw [if_neg c6] at H
    exact absurd H (by simp)
   rw [if_neg c5] at H
   have c5b0 : decide (a6 < (l0.length : Int)) = false := decide_eq_false c5
   clear c5
   obtain rfl := Option.some.inj H
   go_wp2
   go_ret
   exact ⟨by first | rfl | (simp [errW_none, errW_some] <;> rfl) | (simp [*, errW_none, errW_some] <;> rfl), by repeat (first | (with_reducible first | exact HB.out | apply below_alloc | apply zA | apply below_drew1 | refine below_set ?_ GE167.out) | exact HB.out)⟩

end Go.Proofs.YtamimnaafiphcaaDoor.PR1C
