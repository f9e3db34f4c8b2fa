-- Written by gp.py for this claim.
import Derived.Test.YtamimnaafiphcaaDoorPR1CZ
import Derived.Test.YtamimnaafiphcaaDoorPR1Cx33
namespace Go.Proofs.YtamimnaafiphcaaDoor.PR1C
open Go.RowKit Go.Proofs.YtamimnaafiphcaaDoorW.PrintWords Go.Proofs.YtamimnaafiphcaaDoorW.PrintLast Go.Proofs.YtamimnaafiphcaaDoorW.PrintMore
attribute [local go_sem] max2_int min2_int max_two min_two max_three min_three max_four min_four   -- for this text's walks alone
set_option linter.unusedVariables false
set_option linter.unusedSimpArgs false

namespace q_switchbacklaw17_RelaxBack
theorem uZ {p : Prop} (h : p) : Aside0 p := ⟨h⟩
theorem uR {p q : Prop} (h : p) (g : p → q := by intro h; (with_reducible repeat (first | apply Kd.R_alloc | apply Kd.R_drewN | apply Kd.R_drew)); exact h) : q := g h
theorem uK {p q : Prop} (h : p) (g : p → q := by intro h; (with_reducible repeat (first | apply blk_drewN | apply blk_drew | apply blk_alloc)); exact h) : q := g h
theorem uB {p q : Prop} (h : p) (g : p → q := by intro h; repeat (first | (with_reducible first | exact h | apply below_alloc | apply pw_below_drewN | apply below_drew1) | exact h)) : q := g h
theorem uC {p q s : Prop} (h : p) (j : s) (g : p → s → q := by intro h j; repeat (first | (with_reducible first | exact h | apply below_alloc | apply pw_below_drewN | apply below_drew1 | refine below_set ?_ j) | exact h)) : q := g h j
theorem zA : type_of% @Kd.R_alloc := @Kd.R_alloc
theorem zB : type_of% @Kd.R_drewN := @Kd.R_drewN
theorem zC : type_of% @Kd.R_drew := @Kd.R_drew
theorem zD : type_of% @Kd.R_far := @Kd.R_far
theorem zE : type_of% @Kd.R_below := @Kd.R_below
theorem zF : type_of% @Kd.R_mono := @Kd.R_mono
theorem zG : type_of% @Kd.R_types := @Kd.R_types
theorem zH : type_of% @Kd.R_lower := @Kd.R_lower
theorem zI : type_of% @Kd.R_slice := @Kd.R_slice
theorem zJ : type_of% @Kd.R_reads' := @Kd.R_reads'
theorem zK : type_of% @Kd.C_alloc := @Kd.C_alloc
theorem zL : type_of% @Kd.C_drewN := @Kd.C_drewN
theorem zM : type_of% @Kd.C_drew := @Kd.C_drew
theorem zN : type_of% @blk_drewN := @blk_drewN
theorem zO : type_of% @blk_drew := @blk_drew
theorem zP : type_of% @blk_alloc := @blk_alloc
theorem zQ : type_of% @pw_below_drewN := @pw_below_drewN
theorem zR : type_of% @below_alloc := @below_alloc
theorem zS : type_of% @below_drew1 := @below_drew1
theorem zT : type_of% @blk_frozen := @blk_frozen
theorem zU : type_of% @blk_cell := @blk_cell
theorem zV : type_of% @blk_put := @blk_put
theorem zW : type_of% @blk_below := @blk_below
theorem zX : type_of% @below_set := @below_set
theorem zY : type_of% @below_size := @below_size
theorem zZ : type_of% @below_step := @below_step
theorem yA : type_of% @List.map_toArray := @List.map_toArray
theorem yB : type_of% @List.length_drop := @List.length_drop
theorem yC : type_of% @List.length_take := @List.length_take
end q_switchbacklaw17_RelaxBack
open q_switchbacklaw17_RelaxBack

/-! ### switchbacklaw17_RelaxBack: function 7 -/
mutual
def switchbacklaw17_RelaxBack.j0 : Nat → List (S40) → Bool → List Int → List Int → List Int → Int → Option (Bool)
  | 0, _, _, _, _, _, _ => none
  | k + 1, x0, x57, x217000, x217001, x217002, x217003 => if x57 = true then (some false) else (switchbacklaw17_RelaxBack.l0 k x0 0 0 x217000 x217001 x217002 x217003)
def switchbacklaw17_RelaxBack.l0 : Nat → List (S40) → Int → Int → List Int → List Int → List Int → Int → Option (Bool)
  | 0, _, _, _, _, _, _, _ => none
  | k + 1, x0, x6, x7, x217000, x217001, x217002, x217003 => if x7 < (x0.length : Int) then (if 0 ≤ x7 then (if x7 < (x217002.length : Int) then (if (rd x217002 x7) = x6 then ((switchbacklaw17_line.f k x0 x217000 x217001 x217002 x217003 x7 x6).bind fun bt219 => (if bt219.2 = true then (switchbacklaw17_RelaxBack.l0 k x0 (wrap64 (x6 + bt219.1)) (wrap64 (x7 + 1)) x217000 x217001 x217002 x217003) else (some false))) else (some false)) else (none)) else (none)) else ((switchbacklaw17_live.f).bind fun t221 => (if t221 = true then (some (x6 == (x217000.length : Int))) else (some false)))
end
def switchbacklaw17_RelaxBack.f (k : Nat) (l0 : List (S40)) : Option (Bool) := (relax_Assemble.f l0).bind fun bt204 => (if bt204.2.2.2.2.2 = 0 then (if (bt204.2.1.length : Int) = (bt204.1.length : Int) then (if (bt204.2.2.1.length : Int) = (l0.length : Int) then (switchbacklaw17_RelaxBack.j0 k l0 (decide ((bt204.1.length : Int) > 65536)) bt204.1 bt204.2.1 bt204.2.2.1 bt204.2.2.2.1) else (switchbacklaw17_RelaxBack.j0 k l0 true bt204.1 bt204.2.1 bt204.2.2.1 bt204.2.2.2.1)) else (switchbacklaw17_RelaxBack.j0 k l0 true bt204.1 bt204.2.1 bt204.2.2.1 bt204.2.2.2.1)) else ((switchbacklaw17_live.f).bind fun t217 => (if t217 = true then (if (bt204.1.length : Int) = 0 then (if (bt204.2.1.length : Int) = 0 then (some ((bt204.2.2.1.length : Int) == 0)) else (some false)) else (some false)) else (some false))))
theorem switchbacklaw17_RelaxBack.mono_l : ∀ k, (∀ y0 y1 y2 y3 y4 y5, LeO (switchbacklaw17_RelaxBack.j0 k y0 y1 y2 y3 y4 y5) (switchbacklaw17_RelaxBack.j0 (k + 1) y0 y1 y2 y3 y4 y5)) ∧ (∀ y0 y1 y2 y3 y4 y5 y6, LeO (switchbacklaw17_RelaxBack.l0 k y0 y1 y2 y3 y4 y5 y6) (switchbacklaw17_RelaxBack.l0 (k + 1) y0 y1 y2 y3 y4 y5 y6))
  | 0 => ⟨fun _ _ _ _ _ _ r h => by simp [switchbacklaw17_RelaxBack.j0] at h, fun _ _ _ _ _ _ _ r h => by simp [switchbacklaw17_RelaxBack.l0] at h⟩
  | k + 1 => by
    obtain ⟨ih0, ih1⟩ := switchbacklaw17_RelaxBack.mono_l k
    refine ⟨?_, ?_⟩
    · intro y0 y1 y2 y3 y4 y5
      unfold switchbacklaw17_RelaxBack.j0
      repeat' first
      | (with_reducible exact ih0 _ _ _ _ _ _)
      | (with_reducible exact ih1 _ _ _ _ _ _ _)
      | (with_reducible exact switchbacklaw17_line.mono _ _ _ _ _ _ _ _)
      | (with_reducible exact LeO.refl _)
      | (with_reducible exact LeO.none _)
      | (with_reducible refine LeO.ite ?_ ?_)
      | (with_reducible refine LeO.bind ?_ (fun _ => ?_))
      | exact ih0 _ _ _ _ _ _
      | exact ih1 _ _ _ _ _ _ _
      | exact switchbacklaw17_line.mono _ _ _ _ _ _ _ _
      | exact LeO.none _
      | refine LeO.ite ?_ ?_
      | refine LeO.bind ?_ (fun _ => ?_)
    · intro y0 y1 y2 y3 y4 y5 y6
      unfold switchbacklaw17_RelaxBack.l0
      repeat' first
      | (with_reducible exact ih0 _ _ _ _ _ _)
      | (with_reducible exact ih1 _ _ _ _ _ _ _)
      | (with_reducible exact switchbacklaw17_line.mono _ _ _ _ _ _ _ _)
      | (with_reducible exact LeO.refl _)
      | (with_reducible exact LeO.none _)
      | (with_reducible refine LeO.ite ?_ ?_)
      | (with_reducible refine LeO.bind ?_ (fun _ => ?_))
      | exact ih0 _ _ _ _ _ _
      | exact ih1 _ _ _ _ _ _ _
      | exact switchbacklaw17_line.mono _ _ _ _ _ _ _ _
      | exact LeO.none _
      | refine LeO.ite ?_ ?_
      | refine LeO.bind ?_ (fun _ => ?_)
theorem switchbacklaw17_RelaxBack.mono : ∀ a0 k, LeO (switchbacklaw17_RelaxBack.f k a0) (switchbacklaw17_RelaxBack.f (k + 1) a0) := by
  intro a0 k
  obtain ⟨ih0, ih1⟩ := switchbacklaw17_RelaxBack.mono_l k
  unfold switchbacklaw17_RelaxBack.f
  repeat' first
      | (with_reducible exact ih0 _ _ _ _ _ _)
      | (with_reducible exact ih1 _ _ _ _ _ _ _)
      | (with_reducible exact switchbacklaw17_line.mono _ _ _ _ _ _ _ _)
      | (with_reducible exact LeO.refl _)
      | (with_reducible exact LeO.none _)
      | (with_reducible refine LeO.ite ?_ ?_)
      | (with_reducible refine LeO.bind ?_ (fun _ => ?_))
      | exact ih0 _ _ _ _ _ _
      | exact ih1 _ _ _ _ _ _ _
      | exact switchbacklaw17_line.mono _ _ _ _ _ _ _ _
      | exact LeO.none _
      | refine LeO.ite ?_ ?_
      | refine LeO.bind ?_ (fun _ => ?_)
set_option maxHeartbeats 8000000 in
set_option maxRecDepth 100000 in
theorem switchbacklaw17_RelaxBack.calls (k : Nat) (A0 : Option Addr) (c0 : Nat) (l0 : List (S40)) (r : Bool) (w : World) (hr0 : Kd.C k40 w A0 l0.length l0) (hc0 : l0.length ≤ c0) (hLaid_ : Aside0 (Laid w)) (h : switchbacklaw17_RelaxBack.f k l0 = some r) :
    Calls Tryd.prog 7 #[.slice A0 l0.length c0] w fun e w' => e = .returned (.bool r) ∧ Below w.heap.size w w' := by
 have hu27 := Tryd.underlying27
 have HR0 := uZ hr0
 have HC0 := uZ hc0
 clear hr0 hc0
 have HB := uZ (Below.refl w.heap.size w)
 have H : ((relax_Assemble.f l0).bind fun af => (if af.2.2.2.2.2 = 0 then (if (af.2.1.length : Int) = (af.1.length : Int) then (if (af.2.2.1.length : Int) = (l0.length : Int) then (switchbacklaw17_RelaxBack.j0 k l0 (decide ((af.1.length : Int) > 65536)) af.1 af.2.1 af.2.2.1 af.2.2.2.1) else (switchbacklaw17_RelaxBack.j0 k l0 true af.1 af.2.1 af.2.2.1 af.2.2.2.1)) else (switchbacklaw17_RelaxBack.j0 k l0 true af.1 af.2.1 af.2.2.1 af.2.2.2.1)) else ((switchbacklaw17_live.f).bind fun t217 => (if t217 = true then (if (af.1.length : Int) = 0 then (if (af.2.1.length : Int) = 0 then (some ((af.2.2.1.length : Int) == 0)) else (some false)) else (some false)) else (some false))))) = some r := h
 clear h
 replace H := Option.bind_eq_some_iff.mp H
 obtain ⟨⟨a3, a4, a5, ac, t214, t215⟩, A20, H⟩ := H
 replace H : (if t215 = 0 then (if (a4.length : Int) = (a3.length : Int) then (if (a5.length : Int) = (l0.length : Int) then (switchbacklaw17_RelaxBack.j0 k l0 (decide ((a3.length : Int) > 65536)) a3 a4 a5 ac) else (switchbacklaw17_RelaxBack.j0 k l0 true a3 a4 a5 ac)) else (switchbacklaw17_RelaxBack.j0 k l0 true a3 a4 a5 ac)) else ((switchbacklaw17_live.f).bind fun t217 => (if t217 = true then (if (a3.length : Int) = 0 then (if (a4.length : Int) = 0 then (some ((a5.length : Int) == 0)) else (some false)) else (some false)) else (some false)))) = some r := H
 have A2 := uZ A20
 clear A20
 by_cases c3 : t215 = 0
 ·rw [if_pos c3] at H
  have c3b0 : (t215 == 0) = true := beq_iff_eq.mpr c3
  have c3b1 : (t215 != 0) = false := bne_eq_false_iff_eq.mpr c3
  clear c3
  have HC4 := uZ H
  clear H
  go_enter Tryd.func7, Tryd.ntmps7
  go_upto_region 4 with (first | ((with_reducible refine gate_callee (f := 19) rfl ?_); refine goesL_ (some 12) rfl rfl Tryd.func19 (by kernel_rfl) rfl #[.slice A0 l0.length c0] rfl (by (try simp only [yA, List.map_cons, List.map_nil]); first | done | rfl | (simp only [yB, yC]; rfl)) ?_; (with_reducible refine (relax_Assemble.calls _ _ l0 a3 a4 a5 ac t214 t215 _ ?side1 ?side2 (uZ (hLaid_.out.below (by repeat (first | (with_reducible first | exact HB.out | apply zR | apply zQ | apply zS) | refine zX ?_ (Aside0.out (by assumption)) | exact HB.out)))) A2.out).mono ?_); (case side1 => repeat (first | exact HR0.out | (with_reducible refine zK ?_ _) | (with_reducible refine zL ?_ _) | (with_reducible refine zM ?_))); (case side2 => exact HC0.out); rintro e w5 ⟨v205, v208, v211, rfl, ho0, ho1, ho2, hb⟩; refine ⟨_, rfl, ?_⟩; have n0_ := uZ (zH ho0 (zY (uB HB.out))); have n1_ := uZ (zH ho1 (zY (uB HB.out))); have n2_ := uZ (zH ho2 (zY (uB HB.out))); have n3_ := uZ (zZ (uB HB.out) hb); clear HB; have a9 := n0_; have aa := n1_; have ab := n2_; have HB := n3_; clear n0_ n1_ n2_ n3_; (try clear hb); (try clear hb2); (try clear hk); (try clear hi); (try clear ho0); (try clear ho1); (try clear ho2)) | ((with_reducible refine gate_dst (N := 3) rfl ?_); (try (refine gate_guard (by rfl) ?_; dsimp only)); refine box_event ?hg (N := 3) ?hd (cs := #[.slice none 0 0, .slice none 0 0, .slice none 0 0, .int .i64 0]) (t := 27) ?hr ?_; (case hd => rfl); (case hg => rfl); (case hr => first | (go_simp; done) | (go_simp; rfl)); intro a2 hg w6 hbox hb; have n0_ := uZ (zE (uR a9.out) hb); have n1_ := uZ (zE (uR aa.out) hb); have n2_ := uZ (zE (uR ab.out) hb); have n3_ := uZ (zZ (uB HB.out) hb); have n4_ := uZ (hbox); have n5_ := uZ ((by rw [hg]; exact (zY (uB HB.out)) : w.heap.size ≤ a2)); have n6_ := uZ ((by rw [hg]; exact (zY (uB HB.out)) : w.heap.size ≤ a2)); clear a9; clear aa; clear ab; clear HB; have a9 := n0_; have aa := n1_; have ab := n2_; have HB := n3_; have a1 := n4_; have GW216 := n5_; have ad := n6_; clear n0_ n1_ n2_ n3_ n4_ n5_ n6_; clear hb hbox hg; obtain ⟨aj, co7, eo7⟩ := zI a9.out; subst eo7; have hcz8_0 : w6.cell? ⟨a2, 0, none⟩ = some (.slice none 0 0) := (zU a1.out 0).trans rfl; have hcz8_1 : w6.cell? ⟨a2, 1, none⟩ = some (.slice none 0 0) := (zU a1.out 1).trans rfl; have hcz8_2 : w6.cell? ⟨a2, 2, none⟩ = some (.slice none 0 0) := (zU a1.out 2).trans rfl; have hcz8_3 : w6.cell? ⟨a2, 3, none⟩ = some (.int .i64 0) := (zU a1.out 3).trans rfl; have hfz8_0 := zT a1.out 0; have hfz8_1 := zT a1.out 1; have hfz8_2 := zT a1.out 2; have hfz8_3 := zT a1.out 3; obtain ⟨ak, co9, eo9⟩ := zI aa.out; subst eo9; obtain ⟨ah, ag, eo10⟩ := zI ab.out; subst eo10))
  (try simp only [Act.put, List.setIfInBounds_toArray, List.set_cons_zero, List.set_cons_succ])
  go_cut [57] (fun v57 wc => ∃ (kq : Nat) (x57_3 : Bool), v57 = .bool x57_3 ∧ Aside0 (switchbacklaw17_RelaxBack.j0 kq l0 x57_3 a3 a4 a5 ac = some r) ∧ Aside0 (kq ≤ k) ∧ Aside0 (Kd.R (Kd.int .u32) 38 wc w.heap.size (fun _ => True) (.slice aj a3.length co7) a3) ∧ Aside0 (Kd.R (Kd.int .i64) 3 wc w.heap.size (fun k_ => some k_ ≠ ((.slice ah a5.length ag) : Value).ownBlock) (.slice ak a4.length co9) a4) ∧ Aside0 (Kd.R (Kd.int .i64) 3 wc w.heap.size (fun k_ => some k_ ≠ ((.slice ak a4.length co9) : Value).ownBlock) (.slice ah a5.length ag) a5) ∧ Aside0 (wc.heap[a2]? = some (.cells #[(.slice aj a3.length co7), (.slice ak a4.length co9), (.slice ah a5.length ag), .int .i64 ac] 27 (0, 0))) ∧ Aside0 (Below w.heap.size w wc))
  case first =>
   have H := HC4.out
   clear HC4
   by_cases c11 : (a4.length : Int) = (a3.length : Int)
   ·rw [if_pos c11] at H
    have c11b0 : ((a4.length : Int) == (a3.length : Int)) = true := beq_iff_eq.mpr c11
    have c11b1 : ((a4.length : Int) != (a3.length : Int)) = false := bne_eq_false_iff_eq.mpr c11
    have c11b2 : (a4.length == a3.length) = true := by first | simpa using c11 | (simp at c11 ⊢; omega)
    clear c11
    (first | rw [c11b0] | (simp only [i64_w, i32_w]; rw [c11b0]) | skip)
    by_cases c12 : (a5.length : Int) = (l0.length : Int)
    ·rw [if_pos c12] at H
     have c12b0 : ((a5.length : Int) == (l0.length : Int)) = true := beq_iff_eq.mpr c12
     have c12b1 : ((a5.length : Int) != (l0.length : Int)) = false := bne_eq_false_iff_eq.mpr c12
     have c12b2 : (a5.length == l0.length) = true := by first | simpa using c12 | (simp at c12 ⊢; omega)
     clear c12
     have H' := uZ H
     clear H
     have hcz13_0 : w6.cell? ⟨a2, 0, none⟩ = some (.slice none 0 0) := (zU a1.out 0).trans rfl
     have hcz13_1 : w6.cell? ⟨a2, 1, none⟩ = some (.slice none 0 0) := (zU a1.out 1).trans rfl
     have hcz13_2 : w6.cell? ⟨a2, 2, none⟩ = some (.slice none 0 0) := (zU a1.out 2).trans rfl
     have hcz13_3 : w6.cell? ⟨a2, 3, none⟩ = some (.int .i64 0) := (zU a1.out 3).trans rfl
     have hfz13_0 := zT a1.out 0
     have hfz13_1 := zT a1.out 1
     have hfz13_2 := zT a1.out 2
     have hfz13_3 := zT a1.out 3
     go_wp2
     go_meet
     case rel => exact ⟨_, (decide ((a3.length : Int) > 65536)), (by first | rfl | (simp; done) | (simp [*]; done)), H', ⟨by first | omega | exact Nat.le_refl _⟩, ⟨by (with_reducible repeat (first | apply zA | apply zB | apply zC)); exact zF (zD (p := ⟨a2, 3, none⟩) (zD (p := ⟨a2, 2, none⟩) (zD (p := ⟨a2, 1, none⟩) (zD (p := ⟨a2, 0, none⟩) (zG a9.out a1.out (by decide)) (fun _ hk => hk.2) (.slice aj a3.length co7)) (fun _ hk => hk.2) (.slice ak a4.length co9)) (fun _ hk => hk.2) (.slice ah a5.length ag)) (fun _ hk => hk.2) (.int .i64 ac)) (fun _ hk => trivial)⟩, ⟨by (with_reducible repeat (first | apply zA | apply zB | apply zC)); exact zF (zD (p := ⟨a2, 3, none⟩) (zD (p := ⟨a2, 2, none⟩) (zD (p := ⟨a2, 1, none⟩) (zD (p := ⟨a2, 0, none⟩) (zG aa.out a1.out (by decide)) (fun _ hk => hk.2) (.slice aj a3.length co7)) (fun _ hk => hk.2) (.slice ak a4.length co9)) (fun _ hk => hk.2) (.slice ah a5.length ag)) (fun _ hk => hk.2) (.int .i64 ac)) (fun _ hk => hk.1)⟩, ⟨by (with_reducible repeat (first | apply zA | apply zB | apply zC)); exact zF (zD (p := ⟨a2, 3, none⟩) (zD (p := ⟨a2, 2, none⟩) (zD (p := ⟨a2, 1, none⟩) (zD (p := ⟨a2, 0, none⟩) (zG ab.out a1.out (by decide)) (fun _ hk => hk.2) (.slice aj a3.length co7)) (fun _ hk => hk.2) (.slice ak a4.length co9)) (fun _ hk => hk.2) (.slice ah a5.length ag)) (fun _ hk => hk.2) (.int .i64 ac)) (fun _ hk => hk.1)⟩, ⟨by (with_reducible repeat (first | apply zN | apply zO | apply zP)); refine zV (cs := #[.slice aj a3.length co7, .slice ak a4.length co9, .slice ah a5.length ag, .int .i64 0]) ?_ 3 _ rfl; (with_reducible repeat (first | apply zN | apply zO | apply zP)); refine zV (cs := #[.slice aj a3.length co7, .slice ak a4.length co9, .slice none 0 0, .int .i64 0]) ?_ 2 _ rfl; (with_reducible repeat (first | apply zN | apply zO | apply zP)); refine zV (cs := #[.slice aj a3.length co7, .slice none 0 0, .slice none 0 0, .int .i64 0]) ?_ 1 _ rfl; (with_reducible repeat (first | apply zN | apply zO | apply zP)); refine zV (cs := #[.slice none 0 0, .slice none 0 0, .slice none 0 0, .int .i64 0]) ?_ 0 _ rfl; (with_reducible repeat (first | apply zN | apply zO | apply zP)); exact a1.out⟩, ⟨uC HB.out ad.out⟩⟩
    rw [if_neg c12] at H
    have c12b0 : ((a5.length : Int) == (l0.length : Int)) = false := beq_eq_false_iff_ne.mpr c12
    have c12b1 : ((a5.length : Int) != (l0.length : Int)) = true := bne_iff_ne.mpr c12
    have c12b2 : (a5.length == l0.length) = false := by first | simpa using c12 | (simp at c12 ⊢; omega)
    have H' := uZ H
    clear H
    have hcz14_0 : w6.cell? ⟨a2, 0, none⟩ = some (.slice none 0 0) := (zU a1.out 0).trans rfl
    have hcz14_1 : w6.cell? ⟨a2, 1, none⟩ = some (.slice none 0 0) := (zU a1.out 1).trans rfl
    have hcz14_2 : w6.cell? ⟨a2, 2, none⟩ = some (.slice none 0 0) := (zU a1.out 2).trans rfl
    have hcz14_3 : w6.cell? ⟨a2, 3, none⟩ = some (.int .i64 0) := (zU a1.out 3).trans rfl
    have hfz14_0 := zT a1.out 0
    have hfz14_1 := zT a1.out 1
    have hfz14_2 := zT a1.out 2
    have hfz14_3 := zT a1.out 3
    go_wp2
    go_meet
    case rel => exact ⟨_, (true), (by first | rfl | (simp; done) | (simp [*]; done)), H', ⟨by first | omega | exact Nat.le_refl _⟩, ⟨by (with_reducible repeat (first | apply zA | apply zB | apply zC)); exact zF (zD (p := ⟨a2, 3, none⟩) (zD (p := ⟨a2, 2, none⟩) (zD (p := ⟨a2, 1, none⟩) (zD (p := ⟨a2, 0, none⟩) (zG a9.out a1.out (by decide)) (fun _ hk => hk.2) (.slice aj a3.length co7)) (fun _ hk => hk.2) (.slice ak a4.length co9)) (fun _ hk => hk.2) (.slice ah a5.length ag)) (fun _ hk => hk.2) (.int .i64 ac)) (fun _ hk => trivial)⟩, ⟨by (with_reducible repeat (first | apply zA | apply zB | apply zC)); exact zF (zD (p := ⟨a2, 3, none⟩) (zD (p := ⟨a2, 2, none⟩) (zD (p := ⟨a2, 1, none⟩) (zD (p := ⟨a2, 0, none⟩) (zG aa.out a1.out (by decide)) (fun _ hk => hk.2) (.slice aj a3.length co7)) (fun _ hk => hk.2) (.slice ak a4.length co9)) (fun _ hk => hk.2) (.slice ah a5.length ag)) (fun _ hk => hk.2) (.int .i64 ac)) (fun _ hk => hk.1)⟩, ⟨by (with_reducible repeat (first | apply zA | apply zB | apply zC)); exact zF (zD (p := ⟨a2, 3, none⟩) (zD (p := ⟨a2, 2, none⟩) (zD (p := ⟨a2, 1, none⟩) (zD (p := ⟨a2, 0, none⟩) (zG ab.out a1.out (by decide)) (fun _ hk => hk.2) (.slice aj a3.length co7)) (fun _ hk => hk.2) (.slice ak a4.length co9)) (fun _ hk => hk.2) (.slice ah a5.length ag)) (fun _ hk => hk.2) (.int .i64 ac)) (fun _ hk => hk.1)⟩, ⟨by (with_reducible repeat (first | apply zN | apply zO | apply zP)); refine zV (cs := #[.slice aj a3.length co7, .slice ak a4.length co9, .slice ah a5.length ag, .int .i64 0]) ?_ 3 _ rfl; (with_reducible repeat (first | apply zN | apply zO | apply zP)); refine zV (cs := #[.slice aj a3.length co7, .slice ak a4.length co9, .slice none 0 0, .int .i64 0]) ?_ 2 _ rfl; (with_reducible repeat (first | apply zN | apply zO | apply zP)); refine zV (cs := #[.slice aj a3.length co7, .slice none 0 0, .slice none 0 0, .int .i64 0]) ?_ 1 _ rfl; (with_reducible repeat (first | apply zN | apply zO | apply zP)); refine zV (cs := #[.slice none 0 0, .slice none 0 0, .slice none 0 0, .int .i64 0]) ?_ 0 _ rfl; (with_reducible repeat (first | apply zN | apply zO | apply zP)); exact a1.out⟩, ⟨uC HB.out ad.out⟩⟩
   rw [if_neg c11] at H
   have c11b0 : ((a4.length : Int) == (a3.length : Int)) = false := beq_eq_false_iff_ne.mpr c11
   have c11b1 : ((a4.length : Int) != (a3.length : Int)) = true := bne_iff_ne.mpr c11
   have c11b2 : (a4.length == a3.length) = false := by first | simpa using c11 | (simp at c11 ⊢; omega)
   (first | rw [c11b0] | (simp only [i64_w, i32_w]; rw [c11b0]) | skip)
   have H' := uZ H
   clear H
   have hcz15_0 : w6.cell? ⟨a2, 0, none⟩ = some (.slice none 0 0) := (zU a1.out 0).trans rfl
   have hcz15_1 : w6.cell? ⟨a2, 1, none⟩ = some (.slice none 0 0) := (zU a1.out 1).trans rfl
   have hcz15_2 : w6.cell? ⟨a2, 2, none⟩ = some (.slice none 0 0) := (zU a1.out 2).trans rfl
   have hcz15_3 : w6.cell? ⟨a2, 3, none⟩ = some (.int .i64 0) := (zU a1.out 3).trans rfl
   have hfz15_0 := zT a1.out 0
   have hfz15_1 := zT a1.out 1
   have hfz15_2 := zT a1.out 2
   have hfz15_3 := zT a1.out 3
   go_wp2
   go_meet
   case rel => exact ⟨_, (true), (by first | rfl | (simp; done) | (simp [*]; done)), H', ⟨by first | omega | exact Nat.le_refl _⟩, ⟨by (with_reducible repeat (first | apply zA | apply zB | apply zC)); exact zF (zD (p := ⟨a2, 3, none⟩) (zD (p := ⟨a2, 2, none⟩) (zD (p := ⟨a2, 1, none⟩) (zD (p := ⟨a2, 0, none⟩) (zG a9.out a1.out (by decide)) (fun _ hk => hk.2) (.slice aj a3.length co7)) (fun _ hk => hk.2) (.slice ak a4.length co9)) (fun _ hk => hk.2) (.slice ah a5.length ag)) (fun _ hk => hk.2) (.int .i64 ac)) (fun _ hk => trivial)⟩, ⟨by (with_reducible repeat (first | apply zA | apply zB | apply zC)); exact zF (zD (p := ⟨a2, 3, none⟩) (zD (p := ⟨a2, 2, none⟩) (zD (p := ⟨a2, 1, none⟩) (zD (p := ⟨a2, 0, none⟩) (zG aa.out a1.out (by decide)) (fun _ hk => hk.2) (.slice aj a3.length co7)) (fun _ hk => hk.2) (.slice ak a4.length co9)) (fun _ hk => hk.2) (.slice ah a5.length ag)) (fun _ hk => hk.2) (.int .i64 ac)) (fun _ hk => hk.1)⟩, ⟨by (with_reducible repeat (first | apply zA | apply zB | apply zC)); exact zF (zD (p := ⟨a2, 3, none⟩) (zD (p := ⟨a2, 2, none⟩) (zD (p := ⟨a2, 1, none⟩) (zD (p := ⟨a2, 0, none⟩) (zG ab.out a1.out (by decide)) (fun _ hk => hk.2) (.slice aj a3.length co7)) (fun _ hk => hk.2) (.slice ak a4.length co9)) (fun _ hk => hk.2) (.slice ah a5.length ag)) (fun _ hk => hk.2) (.int .i64 ac)) (fun _ hk => hk.1)⟩, ⟨by (with_reducible repeat (first | apply zN | apply zO | apply zP)); refine zV (cs := #[.slice aj a3.length co7, .slice ak a4.length co9, .slice ah a5.length ag, .int .i64 0]) ?_ 3 _ rfl; (with_reducible repeat (first | apply zN | apply zO | apply zP)); refine zV (cs := #[.slice aj a3.length co7, .slice ak a4.length co9, .slice none 0 0, .int .i64 0]) ?_ 2 _ rfl; (with_reducible repeat (first | apply zN | apply zO | apply zP)); refine zV (cs := #[.slice aj a3.length co7, .slice none 0 0, .slice none 0 0, .int .i64 0]) ?_ 1 _ rfl; (with_reducible repeat (first | apply zN | apply zO | apply zP)); refine zV (cs := #[.slice none 0 0, .slice none 0 0, .slice none 0 0, .int .i64 0]) ?_ 0 _ rfl; (with_reducible repeat (first | apply zN | apply zO | apply zP)); exact a1.out⟩, ⟨uC HB.out ad.out⟩⟩
  case rest =>
   clear HC4
   try clear c1
   try clear p2
   try clear c3
   try clear c3b0
   try clear c3b1
   try clear c7
   try clear c11
   try clear c11b0
   try clear c11b1
   try clear c11b2
   try clear c12
   try clear c12b0
   try clear c12b1
   try clear c12b2
   try clear hcz13_0
   try clear hcz13_1
   try clear hcz13_2
   try clear hcz13_3
   try clear hcz14_0
   try clear hcz14_1
   try clear hcz14_2
   try clear hcz14_3
   try clear hcz15_0
   try clear hcz15_1
   try clear hcz15_2
   try clear hcz15_3
   try clear hcz8_0
   try clear hcz8_1
   try clear hcz8_2
   try clear hcz8_3
   try clear hfz13_0
   try clear hfz13_1
   try clear hfz13_2
   try clear hfz13_3
   try clear hfz14_0
   try clear hfz14_1
   try clear hfz14_2
   try clear hfz14_3
   try clear hfz15_0
   try clear hfz15_1
   try clear hfz15_2
   try clear hfz15_3
   try clear hfz8_0
   try clear hfz8_1
   try clear hfz8_2
   try clear hfz8_3
   obtain ⟨kq, x57_3, rfl, HA, HJ3, a7, a8, a6, a1, HB⟩ := hcut
   cases kq with
   | zero => exact absurd HA.out (by simp [switchbacklaw17_RelaxBack.j0])
   | succ kj3 =>
    have H := HA.out
    clear HA
    simp only [switchbacklaw17_RelaxBack.j0] at H
    by_cases c16 : x57_3 = true
    ·subst c16
     have H1 : (some false) = some r := by rw [if_pos rfl] at H; exact H
     clear H
     have H := H1
     clear H1
     obtain rfl := Option.some.inj H
     go_wp2
     go_ret
     exact ⟨by first | rfl | (simp [errW_none, errW_some] <;> rfl) | (simp [*, errW_none, errW_some] <;> rfl), by repeat (first | (with_reducible first | exact HB.out | apply zR | apply zQ | apply zS | refine zX ?_ ad.out) | exact HB.out)⟩
    replace c16 := Bool.eq_false_iff.mpr c16
    subst c16
    have H1 : (switchbacklaw17_RelaxBack.l0 kj3 l0 0 0 a3 a4 a5 ac) = some r := by rw [if_neg (show ¬ (false = true) by decide)] at H; exact H
    clear H
    have H := H1
    clear H1
    have H' := uZ H
    clear H
    go_wp2
    go_loopg [6, 7] kj3 (fun kq v6 v7 w' => ∃ (ai : Int) (ae : Int), v6 = .int .i64 ai ∧ v7 = .int .i64 ae ∧ Aside0 (switchbacklaw17_RelaxBack.l0 kq l0 ai ae a3 a4 a5 ac = some r) ∧ Aside0 (kq ≤ kj3) ∧ Aside0 (Kd.R (Kd.int .u32) 38 w' w.heap.size (fun _ => True) (.slice aj a3.length co7) a3) ∧ Aside0 (Kd.R (Kd.int .i64) 3 w' w.heap.size (fun k_ => some k_ ≠ ((.slice ah a5.length ag) : Value).ownBlock) (.slice ak a4.length co9) a4) ∧ Aside0 (Kd.R (Kd.int .i64) 3 w' w.heap.size (fun k_ => some k_ ≠ ((.slice ak a4.length co9) : Value).ownBlock) (.slice ah a5.length ag) a5) ∧ Aside0 (w'.heap[a2]? = some (.cells #[(.slice aj a3.length co7), (.slice ak a4.length co9), (.slice ah a5.length ag), .int .i64 ac] 27 (0, 0))) ∧ Aside0 (Below w.heap.size w w'))
    case atStart => exact ⟨(0), (0), (by first | rfl | (simp; done) | (simp [*]; done)), (by first | rfl | (simp; done) | (simp [*]; done)), H', ⟨Nat.le_refl _⟩, ⟨uR a7.out⟩, ⟨uR a8.out⟩, ⟨uR a6.out⟩, ⟨uK a1.out⟩, ⟨uC HB.out ad.out⟩⟩
    case round =>
     clear H'
     try clear c1
     try clear p2
     try clear c3
     try clear c3b0
     try clear c3b1
     try clear c7
     try clear c11
     try clear c11b0
     try clear c11b1
     try clear c11b2
     try clear c12
     try clear c12b0
     try clear c12b1
     try clear c12b2
     try clear c16
     try clear hcz13_0
     try clear hcz13_1
     try clear hcz13_2
     try clear hcz13_3
     try clear hcz14_0
     try clear hcz14_1
     try clear hcz14_2
     try clear hcz14_3
     try clear hcz15_0
     try clear hcz15_1
     try clear hcz15_2
     try clear hcz15_3
     try clear hcz8_0
     try clear hcz8_1
     try clear hcz8_2
     try clear hcz8_3
     try clear hfz13_0
     try clear hfz13_1
     try clear hfz13_2
     try clear hfz13_3
     try clear hfz14_0
     try clear hfz14_1
     try clear hfz14_2
     try clear hfz14_3
     try clear hfz15_0
     try clear hfz15_1
     try clear hfz15_2
     try clear hfz15_3
     try clear hfz8_0
     try clear hfz8_1
     try clear hfz8_2
     try clear hfz8_3
     try clear p2
     obtain ⟨ai, ae, rfl, rfl, HA, HK2, a7, a8, a6, a1, HB⟩ := hrel
     cases gk with
     | zero => exact absurd HA.out (by simp [switchbacklaw17_RelaxBack.l0])
     | succ k2 =>
      have H := HA.out
      clear HA
      simp only [switchbacklaw17_RelaxBack.l0] at H
      by_cases c17 : ae < (l0.length : Int)
      ·rw [if_pos c17] at H
       have c17b0 : decide (ae < (l0.length : Int)) = true := decide_eq_true c17
       clear c17
       by_cases c18 : 0 ≤ ae
       ·rw [if_pos c18] at H
        have c18b0 : decide (0 ≤ ae) = true := decide_eq_true c18
        clear c18
        by_cases c19 : ae < (a5.length : Int)
        ·rw [if_pos c19] at H
         have c19b0 : decide (ae < (a5.length : Int)) = true := decide_eq_true c19
         clear c19
         by_cases c20 : (rd a5 ae) = ai
         ·rw [if_pos c20] at H
          have c20b0 : ((rd a5 ae) == ai) = true := beq_iff_eq.mpr c20
          have c20b1 : ((rd a5 ae) != ai) = false := bne_eq_false_iff_eq.mpr c20
          clear c20
          replace H := Option.bind_eq_some_iff.mp H
          obtain ⟨⟨t219, t220⟩, A210, H⟩ := H
          replace H : (if t220 = true then (switchbacklaw17_RelaxBack.l0 k2 l0 (wrap64 (ai + t219)) (wrap64 (ae + 1)) a3 a4 a5 ac) else (some false)) = some r := H
          have A21 := uZ A210
          clear A210
          by_cases c22 : t220 = true
          ·subst c22
           have H1 : (switchbacklaw17_RelaxBack.l0 k2 l0 (wrap64 (ai + t219)) (wrap64 (ae + 1)) a3 a4 a5 ac) = some r := by rw [if_pos rfl] at H; exact H
           clear H
           have H := H1
           clear H1
           have H' := uZ H
           clear H
           have hcz23_0 : wr.cell? ⟨a2, 0, none⟩ = some (.slice aj a3.length co7) := (zU a1.out 0).trans rfl
           have hcz23_1 : wr.cell? ⟨a2, 1, none⟩ = some (.slice ak a4.length co9) := (zU a1.out 1).trans rfl
           have hcz23_2 : wr.cell? ⟨a2, 2, none⟩ = some (.slice ah a5.length ag) := (zU a1.out 2).trans rfl
           have hcz23_3 : wr.cell? ⟨a2, 3, none⟩ = some (.int .i64 ac) := (zU a1.out 3).trans rfl
           have hfz23_0 := zT a1.out 0
           have hfz23_1 := zT a1.out 1
           have hfz23_2 := zT a1.out 2
           have hfz23_3 := zT a1.out 3
           have p218 : 0 ≤ (ae : Int) := of_decide_eq_true (by first | (with_reducible assumption) | assumption)
           have q218 : ae < (a5.length : Int) := of_decide_eq_true (by first | (with_reducible assumption) | assumption)
           obtain ⟨ad218, e218, hx218_0⟩ := Kd.at_int (zJ a6.out).2.2 ae p218 q218
           cases e218
           replace p218 := eq_true p218
           replace q218 := eq_true q218
           go_wp2_with (first | ((with_reducible refine gate_callee (f := 29) rfl ?_); refine goesL_ (some 76) rfl rfl Tryd.func29 (by kernel_rfl) rfl #[.slice A0 l0.length c0, .agg #[.slice aj a3.length co7, .slice ak a4.length co9, .slice (some ad218) a5.length ag, .int .i64 ac], .int .i64 ae, .int .i64 ai] rfl (by (try simp only [yA, List.map_cons, List.map_nil]); first | done | rfl | (simp only [yB, yC]; rfl)) ?_; (with_reducible refine (switchbacklaw17_line.calls k2 _ _ l0 _ _ a3 _ _ a4 _ _ a5 ac ae ai t219 true _ ?side1 ?side2 ?side3 ?side4 ?side5 ?side6 ?side7 ?side8 (uZ (hLaid_.out.below (by repeat (first | (with_reducible first | exact HB.out | apply zR | apply zQ | apply zS) | refine zX ?_ (Aside0.out (by assumption)) | exact HB.out)))) A21.out).mono ?_); (case side1 => repeat (first | exact (Kd.C_below HR0.out HB.out) | (with_reducible refine zK ?_ _) | (with_reducible refine zL ?_ _) | (with_reducible refine zM ?_))); (case side2 => exact HC0.out); (case side3 => repeat (first | exact (zJ a7.out).2.2 | (with_reducible refine zK ?_ _) | (with_reducible refine zL ?_ _) | (with_reducible refine zM ?_))); (case side4 => exact (zJ a7.out).2.1); (case side5 => repeat (first | exact (zJ a8.out).2.2 | (with_reducible refine zK ?_ _) | (with_reducible refine zL ?_ _) | (with_reducible refine zM ?_))); (case side6 => exact (zJ a8.out).2.1); (case side7 => repeat (first | exact (zJ a6.out).2.2 | (with_reducible refine zK ?_ _) | (with_reducible refine zL ?_ _) | (with_reducible refine zM ?_))); (case side8 => exact (zJ a6.out).2.1); rintro e w24 ⟨rfl, hb⟩; refine ⟨_, rfl, ?_⟩; have n0_ := uZ (zE (uR a7.out) hb); have n1_ := uZ (zE (uR a8.out) hb); have n2_ := uZ (zE (uR a6.out) hb); have n3_ := uZ (zW (g := a2) (o := .cells #[.slice aj a3.length co7, .slice ak a4.length co9, .slice (some ad218) a5.length ag, .int .i64 ac] 27 (0, 0)) (uK a1.out) hb); have n4_ := uZ (zZ (uC HB.out ad.out) hb); clear a7; clear a8; clear a6; clear a1; clear HB; have a7 := n0_; have a8 := n1_; have a6 := n2_; have a1 := n3_; have HB := n4_; clear n0_ n1_ n2_ n3_ n4_; (try clear hb); (try clear hb2); (try clear hk); (try clear hi)))
           go_roundg k2
           case measure => have := HJ3.out; have := HK2.out; omega
           case rel => exact ⟨(wrap64 (ai + t219)), (wrap64 (ae + 1)), (by first | rfl | (simp; done) | (simp [*]; done)), (by first | rfl | (simp; done) | (simp [*]; done)), H', ⟨by have := HJ3.out; have := HK2.out; omega⟩, ⟨uR a7.out⟩, ⟨uR a8.out⟩, ⟨uR a6.out⟩, ⟨uK a1.out⟩, ⟨uC HB.out ad.out⟩⟩
          replace c22 := Bool.eq_false_iff.mpr c22
          subst c22
          have H1 : (some false) = some r := by rw [if_neg (show ¬ (false = true) by decide)] at H; exact H
          clear H
          have H := H1
          clear H1
          obtain rfl := Option.some.inj H
          have hcz25_0 : wr.cell? ⟨a2, 0, none⟩ = some (.slice aj a3.length co7) := (zU a1.out 0).trans rfl
          have hcz25_1 : wr.cell? ⟨a2, 1, none⟩ = some (.slice ak a4.length co9) := (zU a1.out 1).trans rfl
          have hcz25_2 : wr.cell? ⟨a2, 2, none⟩ = some (.slice ah a5.length ag) := (zU a1.out 2).trans rfl
          have hcz25_3 : wr.cell? ⟨a2, 3, none⟩ = some (.int .i64 ac) := (zU a1.out 3).trans rfl
          have hfz25_0 := zT a1.out 0
          have hfz25_1 := zT a1.out 1
          have hfz25_2 := zT a1.out 2
          have hfz25_3 := zT a1.out 3
          have p218 : 0 ≤ (ae : Int) := of_decide_eq_true (by first | (with_reducible assumption) | assumption)
          have q218 : ae < (a5.length : Int) := of_decide_eq_true (by first | (with_reducible assumption) | assumption)
          obtain ⟨ad218, e218, hx218_0⟩ := Kd.at_int (zJ a6.out).2.2 ae p218 q218
          cases e218
          replace p218 := eq_true p218
          replace q218 := eq_true q218
          go_wp2_with (first | ((with_reducible refine gate_callee (f := 29) rfl ?_); refine goesL_ (some 76) rfl rfl Tryd.func29 (by kernel_rfl) rfl #[.slice A0 l0.length c0, .agg #[.slice aj a3.length co7, .slice ak a4.length co9, .slice (some ad218) a5.length ag, .int .i64 ac], .int .i64 ae, .int .i64 ai] rfl (by (try simp only [yA, List.map_cons, List.map_nil]); first | done | rfl | (simp only [yB, yC]; rfl)) ?_; (with_reducible refine (switchbacklaw17_line.calls k2 _ _ l0 _ _ a3 _ _ a4 _ _ a5 ac ae ai t219 false _ ?side1 ?side2 ?side3 ?side4 ?side5 ?side6 ?side7 ?side8 (uZ (hLaid_.out.below (by repeat (first | (with_reducible first | exact HB.out | apply zR | apply zQ | apply zS) | refine zX ?_ (Aside0.out (by assumption)) | exact HB.out)))) A21.out).mono ?_); (case side1 => repeat (first | exact (Kd.C_below HR0.out HB.out) | (with_reducible refine zK ?_ _) | (with_reducible refine zL ?_ _) | (with_reducible refine zM ?_))); (case side2 => exact HC0.out); (case side3 => repeat (first | exact (zJ a7.out).2.2 | (with_reducible refine zK ?_ _) | (with_reducible refine zL ?_ _) | (with_reducible refine zM ?_))); (case side4 => exact (zJ a7.out).2.1); (case side5 => repeat (first | exact (zJ a8.out).2.2 | (with_reducible refine zK ?_ _) | (with_reducible refine zL ?_ _) | (with_reducible refine zM ?_))); (case side6 => exact (zJ a8.out).2.1); (case side7 => repeat (first | exact (zJ a6.out).2.2 | (with_reducible refine zK ?_ _) | (with_reducible refine zL ?_ _) | (with_reducible refine zM ?_))); (case side8 => exact (zJ a6.out).2.1); rintro e w26 ⟨rfl, hb⟩; refine ⟨_, rfl, ?_⟩; have n0_ := uZ (zE (uR a7.out) hb); have n1_ := uZ (zE (uR a8.out) hb); have n2_ := uZ (zE (uR a6.out) hb); have n3_ := uZ (zW (g := a2) (o := .cells #[.slice aj a3.length co7, .slice ak a4.length co9, .slice (some ad218) a5.length ag, .int .i64 ac] 27 (0, 0)) (uK a1.out) hb); have n4_ := uZ (zZ (uC HB.out ad.out) hb); clear a7; clear a8; clear a6; clear a1; clear HB; have a7 := n0_; have a8 := n1_; have a6 := n2_; have a1 := n3_; have HB := n4_; clear n0_ n1_ n2_ n3_ n4_; (try clear hb); (try clear hb2); (try clear hk); (try clear hi)))
          go_ret
          exact ⟨by first | rfl | (simp [errW_none, errW_some] <;> rfl) | (simp [*, errW_none, errW_some] <;> rfl), by repeat (first | (with_reducible first | exact HB.out | apply zR | apply zQ | apply zS | refine zX ?_ ad.out) | exact HB.out)⟩
         rw [if_neg c20] at H
         have c20b0 : ((rd a5 ae) == ai) = false := beq_eq_false_iff_ne.mpr c20
         have c20b1 : ((rd a5 ae) != ai) = true := bne_iff_ne.mpr c20
         obtain rfl := Option.some.inj H
         have hcz27_0 : wr.cell? ⟨a2, 0, none⟩ = some (.slice aj a3.length co7) := (zU a1.out 0).trans rfl
         have hcz27_1 : wr.cell? ⟨a2, 1, none⟩ = some (.slice ak a4.length co9) := (zU a1.out 1).trans rfl
         have hcz27_2 : wr.cell? ⟨a2, 2, none⟩ = some (.slice ah a5.length ag) := (zU a1.out 2).trans rfl
         have hcz27_3 : wr.cell? ⟨a2, 3, none⟩ = some (.int .i64 ac) := (zU a1.out 3).trans rfl
         have hfz27_0 := zT a1.out 0
         have hfz27_1 := zT a1.out 1
         have hfz27_2 := zT a1.out 2
         have hfz27_3 := zT a1.out 3
         have p218 : 0 ≤ (ae : Int) := of_decide_eq_true (by first | (with_reducible assumption) | assumption)
         have q218 : ae < (a5.length : Int) := of_decide_eq_true (by first | (with_reducible assumption) | assumption)
         obtain ⟨ad218, e218, hx218_0⟩ := Kd.at_int (zJ a6.out).2.2 ae p218 q218
         cases e218
         replace p218 := eq_true p218
         replace q218 := eq_true q218
         go_wp2
         go_ret
         exact ⟨by first | rfl | (simp [errW_none, errW_some] <;> rfl) | (simp [*, errW_none, errW_some] <;> rfl), by repeat (first | (with_reducible first | exact HB.out | apply zR | apply zQ | apply zS | refine zX ?_ ad.out) | exact HB.out)⟩
        rw [if_neg c19] at H
        exact absurd H (by simp)
       rw [if_neg c18] at H
       exact absurd H (by simp)
      rw [if_neg c17] at H
      have c17b0 : decide (ae < (l0.length : Int)) = false := decide_eq_false c17
      clear c17
      replace H := Option.bind_eq_some_iff.mp H
      obtain ⟨t221, A280, H⟩ := H
      replace H : (if t221 = true then (some (ai == (a3.length : Int))) else (some false)) = some r := H
      have A28 := uZ A280
      clear A280
      by_cases c29 : t221 = true
      ·subst c29
       have H1 : (some (ai == (a3.length : Int))) = some r := by rw [if_pos rfl] at H; exact H
       clear H
       have H := H1
       clear H1
       obtain rfl := Option.some.inj H
       go_wp2_with (first | ((with_reducible refine gate_callee (f := 21) rfl ?_); refine goesL_ (some 84) rfl rfl Tryd.func21 (by kernel_rfl) rfl #[] rfl (by (try simp only [yA, List.map_cons, List.map_nil]); first | done | rfl | (simp only [yB, yC]; rfl)) ?_; (with_reducible refine (switchbacklaw17_live.calls  true _ (uZ (hLaid_.out.below (by repeat (first | (with_reducible first | exact HB.out | apply zR | apply zQ | apply zS) | refine zX ?_ (Aside0.out (by assumption)) | exact HB.out)))) A28.out).mono ?_); rintro e w30 ⟨rfl, hb⟩; refine ⟨_, rfl, ?_⟩; have n0_ := uZ (zE (uR a7.out) hb); have n1_ := uZ (zE (uR a8.out) hb); have n2_ := uZ (zE (uR a6.out) hb); have n3_ := uZ (zW (g := a2) (o := .cells #[.slice aj a3.length co7, .slice ak a4.length co9, .slice ah a5.length ag, .int .i64 ac] 27 (0, 0)) (uK a1.out) hb); have n4_ := uZ (zZ (uC HB.out ad.out) hb); clear a7; clear a8; clear a6; clear a1; clear HB; have a7 := n0_; have a8 := n1_; have a6 := n2_; have a1 := n3_; have HB := n4_; clear n0_ n1_ n2_ n3_ n4_; (try clear hb); (try clear hb2); (try clear hk); (try clear hi); have hcz31_0 : w30.cell? ⟨a2, 0, none⟩ = some (.slice aj a3.length co7) := (zU a1.out 0).trans rfl; have hcz31_1 : w30.cell? ⟨a2, 1, none⟩ = some (.slice ak a4.length co9) := (zU a1.out 1).trans rfl; have hcz31_2 : w30.cell? ⟨a2, 2, none⟩ = some (.slice ah a5.length ag) := (zU a1.out 2).trans rfl; have hcz31_3 : w30.cell? ⟨a2, 3, none⟩ = some (.int .i64 ac) := (zU a1.out 3).trans rfl; have hfz31_0 := zT a1.out 0; have hfz31_1 := zT a1.out 1; have hfz31_2 := zT a1.out 2; have hfz31_3 := zT a1.out 3))
       go_ret
       exact ⟨by first | rfl | (simp [errW_none, errW_some] <;> rfl) | (simp [*, errW_none, errW_some] <;> rfl), by repeat (first | (with_reducible first | exact HB.out | apply zR | apply zQ | apply zS | refine zX ?_ ad.out) | exact HB.out)⟩
      replace c29 := Bool.eq_false_iff.mpr c29
      subst c29
      have H1 : (some false) = some r := by rw [if_neg (show ¬ (false = true) by decide)] at H; exact H
      clear H
      have H := H1
      clear H1
      obtain rfl := Option.some.inj H
      go_wp2_with (first | ((with_reducible refine gate_callee (f := 21) rfl ?_); refine goesL_ (some 84) rfl rfl Tryd.func21 (by kernel_rfl) rfl #[] rfl (by (try simp only [yA, List.map_cons, List.map_nil]); first | done | rfl | (simp only [yB, yC]; rfl)) ?_; (with_reducible refine (switchbacklaw17_live.calls  false _ (uZ (hLaid_.out.below (by repeat (first | (with_reducible first | exact HB.out | apply zR | apply zQ | apply zS) | refine zX ?_ (Aside0.out (by assumption)) | exact HB.out)))) A28.out).mono ?_); rintro e w32 ⟨rfl, hb⟩; refine ⟨_, rfl, ?_⟩; have n0_ := uZ (zE (uR a7.out) hb); have n1_ := uZ (zE (uR a8.out) hb); have n2_ := uZ (zE (uR a6.out) hb); have n3_ := uZ (zW (g := a2) (o := .cells #[.slice aj a3.length co7, .slice ak a4.length co9, .slice ah a5.length ag, .int .i64 ac] 27 (0, 0)) (uK a1.out) hb); have n4_ := uZ (zZ (uC HB.out ad.out) hb); clear a7; clear a8; clear a6; clear a1; clear HB; have a7 := n0_; have a8 := n1_; have a6 := n2_; have a1 := n3_; have HB := n4_; clear n0_ n1_ n2_ n3_ n4_; (try clear hb); (try clear hb2); (try clear hk); (try clear hi)))
      go_ret
      exact ⟨by first | rfl | (simp [errW_none, errW_some] <;> rfl) | (simp [*, errW_none, errW_some] <;> rfl), by repeat (first | (with_reducible first | exact HB.out | apply zR | apply zQ | apply zS | refine zX ?_ ad.out) | exact HB.out)⟩
 rw [if_neg c3] at H
 have c3b0 : (t215 == 0) = false := beq_eq_false_iff_ne.mpr c3
 have c3b1 : (t215 != 0) = true := bne_iff_ne.mpr c3
 replace H := Option.bind_eq_some_iff.mp H
 obtain ⟨t217, A330, H⟩ := H
 replace H : (if t217 = true then (if (a3.length : Int) = 0 then (if (a4.length : Int) = 0 then (some ((a5.length : Int) == 0)) else (some false)) else (some false)) else (some false)) = some r := H
 have A33 := uZ A330
 clear A330
 by_cases c34 : t217 = true
 ·subst c34
  have H1 : (if (a3.length : Int) = 0 then (if (a4.length : Int) = 0 then (some ((a5.length : Int) == 0)) else (some false)) else (some false)) = some r := by rw [if_pos rfl] at H; exact H
  clear H
  have H := H1
  clear H1
  by_cases c35 : (a3.length : Int) = 0
  ·rw [if_pos c35] at H
   have c35b0 : ((a3.length : Int) == 0) = true := beq_iff_eq.mpr c35
   have c35b1 : ((a3.length : Int) != 0) = false := bne_eq_false_iff_eq.mpr c35
   clear c35
   by_cases c36 : (a4.length : Int) = 0
   ·rw [if_pos c36] at H
    have c36b0 : ((a4.length : Int) == 0) = true := beq_iff_eq.mpr c36
    have c36b1 : ((a4.length : Int) != 0) = false := bne_eq_false_iff_eq.mpr c36
    clear c36
    obtain rfl := Option.some.inj H
    go_enter Tryd.func7, Tryd.ntmps7
    go_wp2_with (first | ((with_reducible refine gate_callee (f := 19) rfl ?_); refine goesL_ (some 12) rfl rfl Tryd.func19 (by kernel_rfl) rfl #[.slice A0 l0.length c0] rfl (by (try simp only [yA, List.map_cons, List.map_nil]); first | done | rfl | (simp only [yB, yC]; rfl)) ?_; (with_reducible refine (relax_Assemble.calls _ _ l0 a3 a4 a5 ac t214 t215 _ ?side1 ?side2 (uZ (hLaid_.out.below (by repeat (first | (with_reducible first | exact HB.out | apply zR | apply zQ | apply zS) | refine zX ?_ (Aside0.out (by assumption)) | exact HB.out)))) A2.out).mono ?_); (case side1 => repeat (first | exact HR0.out | (with_reducible refine zK ?_ _) | (with_reducible refine zL ?_ _) | (with_reducible refine zM ?_))); (case side2 => exact HC0.out); rintro e w37 ⟨v205, v208, v211, rfl, ho0, ho1, ho2, hb⟩; refine ⟨_, rfl, ?_⟩; have n0_ := uZ (zH ho0 (zY (uB HB.out))); have n1_ := uZ (zH ho1 (zY (uB HB.out))); have n2_ := uZ (zH ho2 (zY (uB HB.out))); have n3_ := uZ (zZ (uB HB.out) hb); clear HB; have a9 := n0_; have aa := n1_; have ab := n2_; have HB := n3_; clear n0_ n1_ n2_ n3_; (try clear hb); (try clear hb2); (try clear hk); (try clear hi); (try clear ho0); (try clear ho1); (try clear ho2)) | ((with_reducible refine gate_dst (N := 3) rfl ?_); (try (refine gate_guard (by rfl) ?_; dsimp only)); refine box_event ?hg (N := 3) ?hd (cs := #[.slice none 0 0, .slice none 0 0, .slice none 0 0, .int .i64 0]) (t := 27) ?hr ?_; (case hd => rfl); (case hg => rfl); (case hr => first | (go_simp; done) | (go_simp; rfl)); intro a2 hg w38 hbox hb; have n0_ := uZ (zE (uR a9.out) hb); have n1_ := uZ (zE (uR aa.out) hb); have n2_ := uZ (zE (uR ab.out) hb); have n3_ := uZ (zZ (uB HB.out) hb); have n4_ := uZ (hbox); have n5_ := uZ ((by rw [hg]; exact (zY (uB HB.out)) : w.heap.size ≤ a2)); have n6_ := uZ ((by rw [hg]; exact (zY (uB HB.out)) : w.heap.size ≤ a2)); clear a9; clear aa; clear ab; clear HB; have a9 := n0_; have aa := n1_; have ab := n2_; have HB := n3_; have a1 := n4_; have GW216 := n5_; have ad := n6_; clear n0_ n1_ n2_ n3_ n4_ n5_ n6_; clear hb hbox hg; obtain ⟨Ao39, co39, eo39⟩ := zI a9.out; subst eo39; have hcz40_0 : w38.cell? ⟨a2, 0, none⟩ = some (.slice none 0 0) := (zU a1.out 0).trans rfl; have hcz40_1 : w38.cell? ⟨a2, 1, none⟩ = some (.slice none 0 0) := (zU a1.out 1).trans rfl; have hcz40_2 : w38.cell? ⟨a2, 2, none⟩ = some (.slice none 0 0) := (zU a1.out 2).trans rfl; have hcz40_3 : w38.cell? ⟨a2, 3, none⟩ = some (.int .i64 0) := (zU a1.out 3).trans rfl; have hfz40_0 := zT a1.out 0; have hfz40_1 := zT a1.out 1; have hfz40_2 := zT a1.out 2; have hfz40_3 := zT a1.out 3; obtain ⟨Ao41, co41, eo41⟩ := zI aa.out; subst eo41; obtain ⟨Ao42, co42, eo42⟩ := zI ab.out; subst eo42) | ((with_reducible refine gate_callee (f := 21) rfl ?_); refine goesL_ (some 18) rfl rfl Tryd.func21 (by kernel_rfl) rfl #[] rfl (by (try simp only [yA, List.map_cons, List.map_nil]); first | done | rfl | (simp only [yB, yC]; rfl)) ?_; (with_reducible refine (switchbacklaw17_live.calls  true _ (uZ (hLaid_.out.below (by repeat (first | (with_reducible first | exact HB.out | apply zR | apply zQ | apply zS) | refine zX ?_ (Aside0.out (by assumption)) | exact HB.out)))) A33.out).mono ?_); rintro e w43 ⟨rfl, hb⟩; refine ⟨_, rfl, ?_⟩; have n0_ := uZ (zE (by (with_reducible repeat (first | apply zA | apply zB | apply zC)); exact (zF (zD (p := ⟨a2, 3, none⟩) (zD (p := ⟨a2, 2, none⟩) (zD (p := ⟨a2, 1, none⟩) (zD (p := ⟨a2, 0, none⟩) (zG a9.out a1.out (by decide)) (fun _ hk => hk.2) (.slice Ao39 a3.length co39)) (fun _ hk => hk.2) (.slice Ao41 a4.length co41)) (fun _ hk => hk.2) (.slice Ao42 a5.length co42)) (fun _ hk => hk.2) (.int .i64 ac)) (fun _ h_ => h_.1))) hb); have n1_ := uZ (zE (by (with_reducible repeat (first | apply zA | apply zB | apply zC)); exact (zF (zD (p := ⟨a2, 3, none⟩) (zD (p := ⟨a2, 2, none⟩) (zD (p := ⟨a2, 1, none⟩) (zD (p := ⟨a2, 0, none⟩) (zG aa.out a1.out (by decide)) (fun _ hk => hk.2) (.slice Ao39 a3.length co39)) (fun _ hk => hk.2) (.slice Ao41 a4.length co41)) (fun _ hk => hk.2) (.slice Ao42 a5.length co42)) (fun _ hk => hk.2) (.int .i64 ac)) (fun _ h_ => h_.1))) hb); have n2_ := uZ (zE (by (with_reducible repeat (first | apply zA | apply zB | apply zC)); exact (zF (zD (p := ⟨a2, 3, none⟩) (zD (p := ⟨a2, 2, none⟩) (zD (p := ⟨a2, 1, none⟩) (zD (p := ⟨a2, 0, none⟩) (zG ab.out a1.out (by decide)) (fun _ hk => hk.2) (.slice Ao39 a3.length co39)) (fun _ hk => hk.2) (.slice Ao41 a4.length co41)) (fun _ hk => hk.2) (.slice Ao42 a5.length co42)) (fun _ hk => hk.2) (.int .i64 ac)) (fun _ h_ => h_.1))) hb); have n3_ := uZ (zW (g := a2) (o := .cells #[.slice Ao39 a3.length co39, .slice Ao41 a4.length co41, .slice Ao42 a5.length co42, .int .i64 ac] 27 (0, 0)) (by (with_reducible repeat (first | apply zN | apply zO | apply zP)); refine zV (cs := #[.slice Ao39 a3.length co39, .slice Ao41 a4.length co41, .slice Ao42 a5.length co42, .int .i64 0]) ?_ 3 _ rfl; (with_reducible repeat (first | apply zN | apply zO | apply zP)); refine zV (cs := #[.slice Ao39 a3.length co39, .slice Ao41 a4.length co41, .slice none 0 0, .int .i64 0]) ?_ 2 _ rfl; (with_reducible repeat (first | apply zN | apply zO | apply zP)); refine zV (cs := #[.slice Ao39 a3.length co39, .slice none 0 0, .slice none 0 0, .int .i64 0]) ?_ 1 _ rfl; (with_reducible repeat (first | apply zN | apply zO | apply zP)); refine zV (cs := #[.slice none 0 0, .slice none 0 0, .slice none 0 0, .int .i64 0]) ?_ 0 _ rfl; (with_reducible repeat (first | apply zN | apply zO | apply zP)); exact a1.out) hb); have n4_ := uZ (zZ (uC HB.out ad.out) hb); clear a9; clear aa; clear ab; clear a1; clear HB; have a9 := n0_; have aa := n1_; have ab := n2_; have a1 := n3_; have HB := n4_; clear n0_ n1_ n2_ n3_ n4_; (try clear hb); (try clear hb2); (try clear hk); (try clear hi); have hcz44_0 : w43.cell? ⟨a2, 0, none⟩ = some (.slice Ao39 a3.length co39) := (zU a1.out 0).trans rfl; have hcz44_1 : w43.cell? ⟨a2, 1, none⟩ = some (.slice Ao41 a4.length co41) := (zU a1.out 1).trans rfl; have hcz44_2 : w43.cell? ⟨a2, 2, none⟩ = some (.slice Ao42 a5.length co42) := (zU a1.out 2).trans rfl; have hcz44_3 : w43.cell? ⟨a2, 3, none⟩ = some (.int .i64 ac) := (zU a1.out 3).trans rfl; have hfz44_0 := zT a1.out 0; have hfz44_1 := zT a1.out 1; have hfz44_2 := zT a1.out 2; have hfz44_3 := zT a1.out 3))
    go_ret
    exact ⟨by first | rfl | (simp [errW_none, errW_some] <;> rfl) | (simp [*, errW_none, errW_some] <;> rfl), by repeat (first | (with_reducible first | exact HB.out | apply zR | apply zQ | apply zS | refine zX ?_ ad.out) | exact HB.out)⟩
   rw [if_neg c36] at H
   have c36b0 : ((a4.length : Int) == 0) = false := beq_eq_false_iff_ne.mpr c36
   have c36b1 : ((a4.length : Int) != 0) = true := bne_iff_ne.mpr c36
   have c36b2 : ¬ (a4 = []) := fun h_ => c36 (by rw [h_]; rfl)
   obtain rfl := Option.some.inj H
   go_enter Tryd.func7, Tryd.ntmps7
   go_wp2_with (first | ((with_reducible refine gate_callee (f := 19) rfl ?_); refine goesL_ (some 12) rfl rfl Tryd.func19 (by kernel_rfl) rfl #[.slice A0 l0.length c0] rfl (by (try simp only [yA, List.map_cons, List.map_nil]); first | done | rfl | (simp only [yB, yC]; rfl)) ?_; (with_reducible refine (relax_Assemble.calls _ _ l0 a3 a4 a5 ac t214 t215 _ ?side1 ?side2 (uZ (hLaid_.out.below (by repeat (first | (with_reducible first | exact HB.out | apply zR | apply zQ | apply zS) | refine zX ?_ (Aside0.out (by assumption)) | exact HB.out)))) A2.out).mono ?_); (case side1 => repeat (first | exact HR0.out | (with_reducible refine zK ?_ _) | (with_reducible refine zL ?_ _) | (with_reducible refine zM ?_))); (case side2 => exact HC0.out); rintro e w45 ⟨v205, v208, v211, rfl, ho0, ho1, ho2, hb⟩; refine ⟨_, rfl, ?_⟩; have n0_ := uZ (zH ho0 (zY (uB HB.out))); have n1_ := uZ (zH ho1 (zY (uB HB.out))); have n2_ := uZ (zH ho2 (zY (uB HB.out))); have n3_ := uZ (zZ (uB HB.out) hb); clear HB; have a9 := n0_; have aa := n1_; have ab := n2_; have HB := n3_; clear n0_ n1_ n2_ n3_; (try clear hb); (try clear hb2); (try clear hk); (try clear hi); (try clear ho0); (try clear ho1); (try clear ho2)) | ((with_reducible refine gate_dst (N := 3) rfl ?_); (try (refine gate_guard (by rfl) ?_; dsimp only)); refine box_event ?hg (N := 3) ?hd (cs := #[.slice none 0 0, .slice none 0 0, .slice none 0 0, .int .i64 0]) (t := 27) ?hr ?_; (case hd => rfl); (case hg => rfl); (case hr => first | (go_simp; done) | (go_simp; rfl)); intro a2 hg w46 hbox hb; have n0_ := uZ (zE (uR a9.out) hb); have n1_ := uZ (zE (uR aa.out) hb); have n2_ := uZ (zE (uR ab.out) hb); have n3_ := uZ (zZ (uB HB.out) hb); have n4_ := uZ (hbox); have n5_ := uZ ((by rw [hg]; exact (zY (uB HB.out)) : w.heap.size ≤ a2)); have n6_ := uZ ((by rw [hg]; exact (zY (uB HB.out)) : w.heap.size ≤ a2)); clear a9; clear aa; clear ab; clear HB; have a9 := n0_; have aa := n1_; have ab := n2_; have HB := n3_; have a1 := n4_; have GW216 := n5_; have ad := n6_; clear n0_ n1_ n2_ n3_ n4_ n5_ n6_; clear hb hbox hg; obtain ⟨Ao47, co47, eo47⟩ := zI a9.out; subst eo47; have hcz48_0 : w46.cell? ⟨a2, 0, none⟩ = some (.slice none 0 0) := (zU a1.out 0).trans rfl; have hcz48_1 : w46.cell? ⟨a2, 1, none⟩ = some (.slice none 0 0) := (zU a1.out 1).trans rfl; have hcz48_2 : w46.cell? ⟨a2, 2, none⟩ = some (.slice none 0 0) := (zU a1.out 2).trans rfl; have hcz48_3 : w46.cell? ⟨a2, 3, none⟩ = some (.int .i64 0) := (zU a1.out 3).trans rfl; have hfz48_0 := zT a1.out 0; have hfz48_1 := zT a1.out 1; have hfz48_2 := zT a1.out 2; have hfz48_3 := zT a1.out 3; obtain ⟨Ao49, co49, eo49⟩ := zI aa.out; subst eo49; obtain ⟨Ao50, co50, eo50⟩ := zI ab.out; subst eo50) | ((with_reducible refine gate_callee (f := 21) rfl ?_); refine goesL_ (some 18) rfl rfl Tryd.func21 (by kernel_rfl) rfl #[] rfl (by (try simp only [yA, List.map_cons, List.map_nil]); first | done | rfl | (simp only [yB, yC]; rfl)) ?_; (with_reducible refine (switchbacklaw17_live.calls  true _ (uZ (hLaid_.out.below (by repeat (first | (with_reducible first | exact HB.out | apply zR | apply zQ | apply zS) | refine zX ?_ (Aside0.out (by assumption)) | exact HB.out)))) A33.out).mono ?_); rintro e w51 ⟨rfl, hb⟩; refine ⟨_, rfl, ?_⟩; have n0_ := uZ (zE (by (with_reducible repeat (first | apply zA | apply zB | apply zC)); exact (zF (zD (p := ⟨a2, 3, none⟩) (zD (p := ⟨a2, 2, none⟩) (zD (p := ⟨a2, 1, none⟩) (zD (p := ⟨a2, 0, none⟩) (zG a9.out a1.out (by decide)) (fun _ hk => hk.2) (.slice Ao47 a3.length co47)) (fun _ hk => hk.2) (.slice Ao49 a4.length co49)) (fun _ hk => hk.2) (.slice Ao50 a5.length co50)) (fun _ hk => hk.2) (.int .i64 ac)) (fun _ h_ => h_.1))) hb); have n1_ := uZ (zE (by (with_reducible repeat (first | apply zA | apply zB | apply zC)); exact (zF (zD (p := ⟨a2, 3, none⟩) (zD (p := ⟨a2, 2, none⟩) (zD (p := ⟨a2, 1, none⟩) (zD (p := ⟨a2, 0, none⟩) (zG aa.out a1.out (by decide)) (fun _ hk => hk.2) (.slice Ao47 a3.length co47)) (fun _ hk => hk.2) (.slice Ao49 a4.length co49)) (fun _ hk => hk.2) (.slice Ao50 a5.length co50)) (fun _ hk => hk.2) (.int .i64 ac)) (fun _ h_ => h_.1))) hb); have n2_ := uZ (zE (by (with_reducible repeat (first | apply zA | apply zB | apply zC)); exact (zF (zD (p := ⟨a2, 3, none⟩) (zD (p := ⟨a2, 2, none⟩) (zD (p := ⟨a2, 1, none⟩) (zD (p := ⟨a2, 0, none⟩) (zG ab.out a1.out (by decide)) (fun _ hk => hk.2) (.slice Ao47 a3.length co47)) (fun _ hk => hk.2) (.slice Ao49 a4.length co49)) (fun _ hk => hk.2) (.slice Ao50 a5.length co50)) (fun _ hk => hk.2) (.int .i64 ac)) (fun _ h_ => h_.1))) hb); have n3_ := uZ (zW (g := a2) (o := .cells #[.slice Ao47 a3.length co47, .slice Ao49 a4.length co49, .slice Ao50 a5.length co50, .int .i64 ac] 27 (0, 0)) (by (with_reducible repeat (first | apply zN | apply zO | apply zP)); refine zV (cs := #[.slice Ao47 a3.length co47, .slice Ao49 a4.length co49, .slice Ao50 a5.length co50, .int .i64 0]) ?_ 3 _ rfl; (with_reducible repeat (first | apply zN | apply zO | apply zP)); refine zV (cs := #[.slice Ao47 a3.length co47, .slice Ao49 a4.length co49, .slice none 0 0, .int .i64 0]) ?_ 2 _ rfl; (with_reducible repeat (first | apply zN | apply zO | apply zP)); refine zV (cs := #[.slice Ao47 a3.length co47, .slice none 0 0, .slice none 0 0, .int .i64 0]) ?_ 1 _ rfl; (with_reducible repeat (first | apply zN | apply zO | apply zP)); refine zV (cs := #[.slice none 0 0, .slice none 0 0, .slice none 0 0, .int .i64 0]) ?_ 0 _ rfl; (with_reducible repeat (first | apply zN | apply zO | apply zP)); exact a1.out) hb); have n4_ := uZ (zZ (uC HB.out ad.out) hb); clear a9; clear aa; clear ab; clear a1; clear HB; have a9 := n0_; have aa := n1_; have ab := n2_; have a1 := n3_; have HB := n4_; clear n0_ n1_ n2_ n3_ n4_; (try clear hb); (try clear hb2); (try clear hk); (try clear hi); have hcz52_0 : w51.cell? ⟨a2, 0, none⟩ = some (.slice Ao47 a3.length co47) := (zU a1.out 0).trans rfl; have hcz52_1 : w51.cell? ⟨a2, 1, none⟩ = some (.slice Ao49 a4.length co49) := (zU a1.out 1).trans rfl; have hcz52_2 : w51.cell? ⟨a2, 2, none⟩ = some (.slice Ao50 a5.length co50) := (zU a1.out 2).trans rfl; have hcz52_3 : w51.cell? ⟨a2, 3, none⟩ = some (.int .i64 ac) := (zU a1.out 3).trans rfl; have hfz52_0 := zT a1.out 0; have hfz52_1 := zT a1.out 1; have hfz52_2 := zT a1.out 2; have hfz52_3 := zT a1.out 3))
   go_ret
   exact ⟨by first | rfl | (simp [errW_none, errW_some] <;> rfl) | (simp [*, errW_none, errW_some] <;> rfl), by repeat (first | (with_reducible first | exact HB.out | apply zR | apply zQ | apply zS | refine zX ?_ ad.out) | exact HB.out)⟩
  rw [if_neg c35] at H
  have c35b0 : ((a3.length : Int) == 0) = false := beq_eq_false_iff_ne.mpr c35
  have c35b1 : ((a3.length : Int) != 0) = true := bne_iff_ne.mpr c35
  have c35b2 : ¬ (a3 = []) := fun h_ => c35 (by rw [h_]; rfl)
  obtain rfl := Option.some.inj H
  go_enter Tryd.func7, Tryd.ntmps7
  go_wp2_with (first | ((with_reducible refine gate_callee (f := 19) rfl ?_); refine goesL_ (some 12) rfl rfl Tryd.func19 (by kernel_rfl) rfl #[.slice A0 l0.length c0] rfl (by (try simp only [yA, List.map_cons, List.map_nil]); first | done | rfl | (simp only [yB, yC]; rfl)) ?_; (with_reducible refine (relax_Assemble.calls _ _ l0 a3 a4 a5 ac t214 t215 _ ?side1 ?side2 (uZ (hLaid_.out.below (by repeat (first | (with_reducible first | exact HB.out | apply zR | apply zQ | apply zS) | refine zX ?_ (Aside0.out (by assumption)) | exact HB.out)))) A2.out).mono ?_); (case side1 => repeat (first | exact HR0.out | (with_reducible refine zK ?_ _) | (with_reducible refine zL ?_ _) | (with_reducible refine zM ?_))); (case side2 => exact HC0.out); rintro e w53 ⟨v205, v208, v211, rfl, ho0, ho1, ho2, hb⟩; refine ⟨_, rfl, ?_⟩; have n0_ := uZ (zH ho0 (zY (uB HB.out))); have n1_ := uZ (zH ho1 (zY (uB HB.out))); have n2_ := uZ (zH ho2 (zY (uB HB.out))); have n3_ := uZ (zZ (uB HB.out) hb); clear HB; have a9 := n0_; have aa := n1_; have ab := n2_; have HB := n3_; clear n0_ n1_ n2_ n3_; (try clear hb); (try clear hb2); (try clear hk); (try clear hi); (try clear ho0); (try clear ho1); (try clear ho2)) | ((with_reducible refine gate_dst (N := 3) rfl ?_); (try (refine gate_guard (by rfl) ?_; dsimp only)); refine box_event ?hg (N := 3) ?hd (cs := #[.slice none 0 0, .slice none 0 0, .slice none 0 0, .int .i64 0]) (t := 27) ?hr ?_; (case hd => rfl); (case hg => rfl); (case hr => first | (go_simp; done) | (go_simp; rfl)); intro a2 hg w54 hbox hb; have n0_ := uZ (zE (uR a9.out) hb); have n1_ := uZ (zE (uR aa.out) hb); have n2_ := uZ (zE (uR ab.out) hb); have n3_ := uZ (zZ (uB HB.out) hb); have n4_ := uZ (hbox); have n5_ := uZ ((by rw [hg]; exact (zY (uB HB.out)) : w.heap.size ≤ a2)); have n6_ := uZ ((by rw [hg]; exact (zY (uB HB.out)) : w.heap.size ≤ a2)); clear a9; clear aa; clear ab; clear HB; have a9 := n0_; have aa := n1_; have ab := n2_; have HB := n3_; have a1 := n4_; have GW216 := n5_; have ad := n6_; clear n0_ n1_ n2_ n3_ n4_ n5_ n6_; clear hb hbox hg; obtain ⟨Ao55, co55, eo55⟩ := zI a9.out; subst eo55; have hcz56_0 : w54.cell? ⟨a2, 0, none⟩ = some (.slice none 0 0) := (zU a1.out 0).trans rfl; have hcz56_1 : w54.cell? ⟨a2, 1, none⟩ = some (.slice none 0 0) := (zU a1.out 1).trans rfl; have hcz56_2 : w54.cell? ⟨a2, 2, none⟩ = some (.slice none 0 0) := (zU a1.out 2).trans rfl; have hcz56_3 : w54.cell? ⟨a2, 3, none⟩ = some (.int .i64 0) := (zU a1.out 3).trans rfl; have hfz56_0 := zT a1.out 0; have hfz56_1 := zT a1.out 1; have hfz56_2 := zT a1.out 2; have hfz56_3 := zT a1.out 3; obtain ⟨Ao57, co57, eo57⟩ := zI aa.out; subst eo57; obtain ⟨Ao58, co58, eo58⟩ := zI ab.out; subst eo58) | ((with_reducible refine gate_callee (f := 21) rfl ?_); refine goesL_ (some 18) rfl rfl Tryd.func21 (by kernel_rfl) rfl #[] rfl (by (try simp only [yA, List.map_cons, List.map_nil]); first | done | rfl | (simp only [yB, yC]; rfl)) ?_; (with_reducible refine (switchbacklaw17_live.calls  true _ (uZ (hLaid_.out.below (by repeat (first | (with_reducible first | exact HB.out | apply zR | apply zQ | apply zS) | refine zX ?_ (Aside0.out (by assumption)) | exact HB.out)))) A33.out).mono ?_); rintro e w59 ⟨rfl, hb⟩; refine ⟨_, rfl, ?_⟩; have n0_ := uZ (zE (by (with_reducible repeat (first | apply zA | apply zB | apply zC)); exact (zF (zD (p := ⟨a2, 3, none⟩) (zD (p := ⟨a2, 2, none⟩) (zD (p := ⟨a2, 1, none⟩) (zD (p := ⟨a2, 0, none⟩) (zG a9.out a1.out (by decide)) (fun _ hk => hk.2) (.slice Ao55 a3.length co55)) (fun _ hk => hk.2) (.slice Ao57 a4.length co57)) (fun _ hk => hk.2) (.slice Ao58 a5.length co58)) (fun _ hk => hk.2) (.int .i64 ac)) (fun _ h_ => h_.1))) hb); have n1_ := uZ (zE (by (with_reducible repeat (first | apply zA | apply zB | apply zC)); exact (zF (zD (p := ⟨a2, 3, none⟩) (zD (p := ⟨a2, 2, none⟩) (zD (p := ⟨a2, 1, none⟩) (zD (p := ⟨a2, 0, none⟩) (zG aa.out a1.out (by decide)) (fun _ hk => hk.2) (.slice Ao55 a3.length co55)) (fun _ hk => hk.2) (.slice Ao57 a4.length co57)) (fun _ hk => hk.2) (.slice Ao58 a5.length co58)) (fun _ hk => hk.2) (.int .i64 ac)) (fun _ h_ => h_.1))) hb); have n2_ := uZ (zE (by (with_reducible repeat (first | apply zA | apply zB | apply zC)); exact (zF (zD (p := ⟨a2, 3, none⟩) (zD (p := ⟨a2, 2, none⟩) (zD (p := ⟨a2, 1, none⟩) (zD (p := ⟨a2, 0, none⟩) (zG ab.out a1.out (by decide)) (fun _ hk => hk.2) (.slice Ao55 a3.length co55)) (fun _ hk => hk.2) (.slice Ao57 a4.length co57)) (fun _ hk => hk.2) (.slice Ao58 a5.length co58)) (fun _ hk => hk.2) (.int .i64 ac)) (fun _ h_ => h_.1))) hb); have n3_ := uZ (zW (g := a2) (o := .cells #[.slice Ao55 a3.length co55, .slice Ao57 a4.length co57, .slice Ao58 a5.length co58, .int .i64 ac] 27 (0, 0)) (by (with_reducible repeat (first | apply zN | apply zO | apply zP)); refine zV (cs := #[.slice Ao55 a3.length co55, .slice Ao57 a4.length co57, .slice Ao58 a5.length co58, .int .i64 0]) ?_ 3 _ rfl; (with_reducible repeat (first | apply zN | apply zO | apply zP)); refine zV (cs := #[.slice Ao55 a3.length co55, .slice Ao57 a4.length co57, .slice none 0 0, .int .i64 0]) ?_ 2 _ rfl; (with_reducible repeat (first | apply zN | apply zO | apply zP)); refine zV (cs := #[.slice Ao55 a3.length co55, .slice none 0 0, .slice none 0 0, .int .i64 0]) ?_ 1 _ rfl; (with_reducible repeat (first | apply zN | apply zO | apply zP)); refine zV (cs := #[.slice none 0 0, .slice none 0 0, .slice none 0 0, .int .i64 0]) ?_ 0 _ rfl; (with_reducible repeat (first | apply zN | apply zO | apply zP)); exact a1.out) hb); have n4_ := uZ (zZ (uC HB.out ad.out) hb); clear a9; clear aa; clear ab; clear a1; clear HB; have a9 := n0_; have aa := n1_; have ab := n2_; have a1 := n3_; have HB := n4_; clear n0_ n1_ n2_ n3_ n4_; (try clear hb); (try clear hb2); (try clear hk); (try clear hi); have hcz60_0 : w59.cell? ⟨a2, 0, none⟩ = some (.slice Ao55 a3.length co55) := (zU a1.out 0).trans rfl; have hcz60_1 : w59.cell? ⟨a2, 1, none⟩ = some (.slice Ao57 a4.length co57) := (zU a1.out 1).trans rfl; have hcz60_2 : w59.cell? ⟨a2, 2, none⟩ = some (.slice Ao58 a5.length co58) := (zU a1.out 2).trans rfl; have hcz60_3 : w59.cell? ⟨a2, 3, none⟩ = some (.int .i64 ac) := (zU a1.out 3).trans rfl; have hfz60_0 := zT a1.out 0; have hfz60_1 := zT a1.out 1; have hfz60_2 := zT a1.out 2; have hfz60_3 := zT a1.out 3))
  go_ret
  exact ⟨by first | rfl | (simp [errW_none, errW_some] <;> rfl) | (simp [*, errW_none, errW_some] <;> rfl), by repeat (first | (with_reducible first | exact HB.out | apply zR | apply zQ | apply zS | refine zX ?_ ad.out) | exact HB.out)⟩
 replace c34 := Bool.eq_false_iff.mpr c34
 subst c34
 have H1 : (some false) = some r := by rw [if_neg (show ¬ (false = true) by decide)] at H; exact H
 clear H
 have H := H1
 clear H1
 obtain rfl := Option.some.inj H
 go_enter Tryd.func7, Tryd.ntmps7
 go_wp2_with (first | ((with_reducible refine gate_callee (f := 19) rfl ?_); refine goesL_ (some 12) rfl rfl Tryd.func19 (by kernel_rfl) rfl #[.slice A0 l0.length c0] rfl (by (try simp only [yA, List.map_cons, List.map_nil]); first | done | rfl | (simp only [yB, yC]; rfl)) ?_; (with_reducible refine (relax_Assemble.calls _ _ l0 a3 a4 a5 ac t214 t215 _ ?side1 ?side2 (uZ (hLaid_.out.below (by repeat (first | (with_reducible first | exact HB.out | apply zR | apply zQ | apply zS) | refine zX ?_ (Aside0.out (by assumption)) | exact HB.out)))) A2.out).mono ?_); (case side1 => repeat (first | exact HR0.out | (with_reducible refine zK ?_ _) | (with_reducible refine zL ?_ _) | (with_reducible refine zM ?_))); (case side2 => exact HC0.out); rintro e w61 ⟨v205, v208, v211, rfl, ho0, ho1, ho2, hb⟩; refine ⟨_, rfl, ?_⟩; have n0_ := uZ (zH ho0 (zY (uB HB.out))); have n1_ := uZ (zH ho1 (zY (uB HB.out))); have n2_ := uZ (zH ho2 (zY (uB HB.out))); have n3_ := uZ (zZ (uB HB.out) hb); clear HB; have a9 := n0_; have aa := n1_; have ab := n2_; have HB := n3_; clear n0_ n1_ n2_ n3_; (try clear hb); (try clear hb2); (try clear hk); (try clear hi); (try clear ho0); (try clear ho1); (try clear ho2)) | ((with_reducible refine gate_dst (N := 3) rfl ?_); (try (refine gate_guard (by rfl) ?_; dsimp only)); refine box_event ?hg (N := 3) ?hd (cs := #[.slice none 0 0, .slice none 0 0, .slice none 0 0, .int .i64 0]) (t := 27) ?hr ?_; (case hd => rfl); (case hg => rfl); (case hr => first | (go_simp; done) | (go_simp; rfl)); intro a2 hg w62 hbox hb; have n0_ := uZ (zE (uR a9.out) hb); have n1_ := uZ (zE (uR aa.out) hb); have n2_ := uZ (zE (uR ab.out) hb); have n3_ := uZ (zZ (uB HB.out) hb); have n4_ := uZ (hbox); have n5_ := uZ ((by rw [hg]; exact (zY (uB HB.out)) : w.heap.size ≤ a2)); have n6_ := uZ ((by rw [hg]; exact (zY (uB HB.out)) : w.heap.size ≤ a2)); clear a9; clear aa; clear ab; clear HB; have a9 := n0_; have aa := n1_; have ab := n2_; have HB := n3_; have a1 := n4_; have GW216 := n5_; have ad := n6_; clear n0_ n1_ n2_ n3_ n4_ n5_ n6_; clear hb hbox hg; obtain ⟨Ao63, co63, eo63⟩ := zI a9.out; subst eo63; have hcz64_0 : w62.cell? ⟨a2, 0, none⟩ = some (.slice none 0 0) := (zU a1.out 0).trans rfl; have hcz64_1 : w62.cell? ⟨a2, 1, none⟩ = some (.slice none 0 0) := (zU a1.out 1).trans rfl; have hcz64_2 : w62.cell? ⟨a2, 2, none⟩ = some (.slice none 0 0) := (zU a1.out 2).trans rfl; have hcz64_3 : w62.cell? ⟨a2, 3, none⟩ = some (.int .i64 0) := (zU a1.out 3).trans rfl; have hfz64_0 := zT a1.out 0; have hfz64_1 := zT a1.out 1; have hfz64_2 := zT a1.out 2; have hfz64_3 := zT a1.out 3; obtain ⟨Ao65, co65, eo65⟩ := zI aa.out; subst eo65; obtain ⟨Ao66, co66, eo66⟩ := zI ab.out; subst eo66) | ((with_reducible refine gate_callee (f := 21) rfl ?_); refine goesL_ (some 18) rfl rfl Tryd.func21 (by kernel_rfl) rfl #[] rfl (by (try simp only [yA, List.map_cons, List.map_nil]); first | done | rfl | (simp only [yB, yC]; rfl)) ?_; (with_reducible refine (switchbacklaw17_live.calls  false _ (uZ (hLaid_.out.below (by repeat (first | (with_reducible first | exact HB.out | apply zR | apply zQ | apply zS) | refine zX ?_ (Aside0.out (by assumption)) | exact HB.out)))) A33.out).mono ?_); rintro e w67 ⟨rfl, hb⟩; refine ⟨_, rfl, ?_⟩; have n0_ := uZ (zE (by (with_reducible repeat (first | apply zA | apply zB | apply zC)); exact (zF (zD (p := ⟨a2, 3, none⟩) (zD (p := ⟨a2, 2, none⟩) (zD (p := ⟨a2, 1, none⟩) (zD (p := ⟨a2, 0, none⟩) (zG a9.out a1.out (by decide)) (fun _ hk => hk.2) (.slice Ao63 a3.length co63)) (fun _ hk => hk.2) (.slice Ao65 a4.length co65)) (fun _ hk => hk.2) (.slice Ao66 a5.length co66)) (fun _ hk => hk.2) (.int .i64 ac)) (fun _ h_ => h_.1))) hb); have n1_ := uZ (zE (by (with_reducible repeat (first | apply zA | apply zB | apply zC)); exact (zF (zD (p := ⟨a2, 3, none⟩) (zD (p := ⟨a2, 2, none⟩) (zD (p := ⟨a2, 1, none⟩) (zD (p := ⟨a2, 0, none⟩) (zG aa.out a1.out (by decide)) (fun _ hk => hk.2) (.slice Ao63 a3.length co63)) (fun _ hk => hk.2) (.slice Ao65 a4.length co65)) (fun _ hk => hk.2) (.slice Ao66 a5.length co66)) (fun _ hk => hk.2) (.int .i64 ac)) (fun _ h_ => h_.1))) hb); have n2_ := uZ (zE (by (with_reducible repeat (first | apply zA | apply zB | apply zC)); exact (zF (zD (p := ⟨a2, 3, none⟩) (zD (p := ⟨a2, 2, none⟩) (zD (p := ⟨a2, 1, none⟩) (zD (p := ⟨a2, 0, none⟩) (zG ab.out a1.out (by decide)) (fun _ hk => hk.2) (.slice Ao63 a3.length co63)) (fun _ hk => hk.2) (.slice Ao65 a4.length co65)) (fun _ hk => hk.2) (.slice Ao66 a5.length co66)) (fun _ hk => hk.2) (.int .i64 ac)) (fun _ h_ => h_.1))) hb); have n3_ := uZ (zW (g := a2) (o := .cells #[.slice Ao63 a3.length co63, .slice Ao65 a4.length co65, .slice Ao66 a5.length co66, .int .i64 ac] 27 (0, 0)) (by (with_reducible repeat (first | apply zN | apply zO | apply zP)); refine zV (cs := #[.slice Ao63 a3.length co63, .slice Ao65 a4.length co65, .slice Ao66 a5.length co66, .int .i64 0]) ?_ 3 _ rfl; (with_reducible repeat (first | apply zN | apply zO | apply zP)); refine zV (cs := #[.slice Ao63 a3.length co63, .slice Ao65 a4.length co65, .slice none 0 0, .int .i64 0]) ?_ 2 _ rfl; (with_reducible repeat (first | apply zN | apply zO | apply zP)); refine zV (cs := #[.slice Ao63 a3.length co63, .slice none 0 0, .slice none 0 0, .int .i64 0]) ?_ 1 _ rfl; (with_reducible repeat (first | apply zN | apply zO | apply zP)); refine zV (cs := #[.slice none 0 0, .slice none 0 0, .slice none 0 0, .int .i64 0]) ?_ 0 _ rfl; (with_reducible repeat (first | apply zN | apply zO | apply zP)); exact a1.out) hb); have n4_ := uZ (zZ (uC HB.out ad.out) hb); clear a9; clear aa; clear ab; clear a1; clear HB; have a9 := n0_; have aa := n1_; have ab := n2_; have a1 := n3_; have HB := n4_; clear n0_ n1_ n2_ n3_ n4_; (try clear hb); (try clear hb2); (try clear hk); (try clear hi)))
 go_ret
 exact ⟨by first | rfl | (simp [errW_none, errW_some] <;> rfl) | (simp [*, errW_none, errW_some] <;> rfl), by repeat (first | (with_reducible first | exact HB.out | apply zR | apply zQ | apply zS | refine zX ?_ ad.out) | exact HB.out)⟩

end Go.Proofs.YtamimnaafiphcaaDoor.PR1C
