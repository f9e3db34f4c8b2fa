-- Written by gp.py for this claim.
import Derived.Test.YtamimnaafiphcaaDoorPR1DZ
namespace Go.Proofs.YtamimnaafiphcaaDoor.PR1D
open Go.RowKit Go.Proofs.YtamimnaafiphcaaDoorW.PrintWords Go.Proofs.YtamimnaafiphcaaDoorW.PrintLast Go.Proofs.YtamimnaafiphcaaDoorW.PrintMore
attribute [local go_sem] max2_int min2_int max_two min_two max_three min_three max_four min_four   -- for this text's walks alone
set_option linter.unusedVariables false
set_option linter.unusedSimpArgs false

namespace q_switchbacklaw17_written
theorem uZ {p : Prop} (h : p) : Aside0 p := ⟨h⟩
theorem uR {p q : Prop} (h : p) (g : p → q := by intro h; (with_reducible repeat (first | apply Kd.R_alloc | apply Kd.R_drewN | apply Kd.R_drew)); exact h) : q := g h
theorem uK {p q : Prop} (h : p) (g : p → q := by intro h; (with_reducible repeat (first | apply blk_drewN | apply blk_drew | apply blk_alloc)); exact h) : q := g h
theorem uC {p q s : Prop} (h : p) (j : s) (g : p → s → q := by intro h j; repeat (first | (with_reducible first | exact h | apply below_alloc | apply pw_below_drewN | apply below_drew1 | refine below_set ?_ j) | exact h)) : q := g h j
theorem uA {p : Prop} [Decidable p] (h : decide p = true := by first | (with_reducible assumption) | assumption) : p := of_decide_eq_true h
theorem zA : type_of% @Kd.R_alloc := @Kd.R_alloc
theorem zB : type_of% @Kd.R_drewN := @Kd.R_drewN
theorem zC : type_of% @Kd.R_drew := @Kd.R_drew
theorem zD : type_of% @Kd.R_over' := @Kd.R_over'
theorem zE : type_of% @Kd.R_slice := @Kd.R_slice
theorem zF : type_of% @blk_frozen := @blk_frozen
theorem zG : type_of% @blk_cell := @blk_cell
end q_switchbacklaw17_written
open q_switchbacklaw17_written

/-! ### switchbacklaw17_written: function 24 -/
mutual
def switchbacklaw17_written.l0 : Nat → Int → List Int → List Int → List Int → Int → Option (List Int)
  | 0, _, _, _, _, _ => none
  | k + 1, x2, x299000, x299001, x299002, x299003 => if x2 < (x299000.length : Int) then (if 0 ≤ x2 then (switchbacklaw17_written.l0 k (wrap64 (x2 + 1)) (x299000.set (x2 : Int).toNat 7) x299001 x299002 x299003) else (none)) else (switchbacklaw17_written.l1 k 0 x299000 x299001 x299002 x299003)
def switchbacklaw17_written.l1 : Nat → Int → List Int → List Int → List Int → Int → Option (List Int)
  | 0, _, _, _, _, _ => none
  | k + 1, x3, x299000, x299001, x299002, x299003 => if x3 < (x299001.length : Int) then (if 0 ≤ x3 then (switchbacklaw17_written.l1 k (wrap64 (x3 + 1)) x299000 (x299001.set (x3 : Int).toNat (-7)) x299002 x299003) else (none)) else (switchbacklaw17_written.l2 k 0 x299000 x299001 x299002 x299003)
def switchbacklaw17_written.l2 : Nat → Int → List Int → List Int → List Int → Int → Option (List Int)
  | 0, _, _, _, _, _ => none
  | k + 1, x4, x299000, x299001, x299002, x299003 => if x4 < (x299002.length : Int) then (if 0 ≤ x4 then (switchbacklaw17_written.l2 k (wrap64 (x4 + 1)) x299000 x299001 (x299002.set (x4 : Int).toNat (-8)) x299003) else (none)) else (if x299001.length < 17592186044416 then ((some (x299001 ++ [(-9)] : List Int)).bind fun y302 => (if x299002.length < 17592186044416 then ((some (x299002 ++ [(-9)] : List Int)).bind fun y305 => (if 0 ≤ (wrap64 ((y302.length : Int) - 1)) then (if (wrap64 ((y302.length : Int) - 1)) < (y302.length : Int) then (if 0 ≤ (wrap64 ((y305.length : Int) - 1)) then (if (wrap64 ((y305.length : Int) - 1)) < (y305.length : Int) then (some x299000) else (none)) else (none)) else (none)) else (none))) else (none))) else (none))
end
def switchbacklaw17_written.f (k : Nat) (l0_0 : List Int) (l0_1 : List Int) (l0_2 : List Int) (a0_3 : Int) : Option (List Int) := switchbacklaw17_written.l0 k 0 l0_0 l0_1 l0_2 a0_3
theorem switchbacklaw17_written.mono_l : ∀ k, (∀ y0 y1 y2 y3 y4, LeO (switchbacklaw17_written.l0 k y0 y1 y2 y3 y4) (switchbacklaw17_written.l0 (k + 1) y0 y1 y2 y3 y4)) ∧ (∀ y0 y1 y2 y3 y4, LeO (switchbacklaw17_written.l1 k y0 y1 y2 y3 y4) (switchbacklaw17_written.l1 (k + 1) y0 y1 y2 y3 y4)) ∧ (∀ y0 y1 y2 y3 y4, LeO (switchbacklaw17_written.l2 k y0 y1 y2 y3 y4) (switchbacklaw17_written.l2 (k + 1) y0 y1 y2 y3 y4))
  | 0 => ⟨fun _ _ _ _ _ r h => by simp [switchbacklaw17_written.l0] at h, fun _ _ _ _ _ r h => by simp [switchbacklaw17_written.l1] at h, fun _ _ _ _ _ r h => by simp [switchbacklaw17_written.l2] at h⟩
  | k + 1 => by
    obtain ⟨ih0, ih1, ih2⟩ := switchbacklaw17_written.mono_l k
    refine ⟨?_, ?_, ?_⟩
    · intro y0 y1 y2 y3 y4
      unfold switchbacklaw17_written.l0
      repeat' first
      | (with_reducible exact ih0 _ _ _ _ _)
      | (with_reducible exact ih1 _ _ _ _ _)
      | (with_reducible exact ih2 _ _ _ _ _)
      | (with_reducible exact LeO.refl _)
      | (with_reducible exact LeO.none _)
      | (with_reducible refine LeO.ite ?_ ?_)
      | (with_reducible refine LeO.bind ?_ (fun _ => ?_))
      | exact ih0 _ _ _ _ _
      | exact ih1 _ _ _ _ _
      | exact ih2 _ _ _ _ _
      | exact LeO.none _
      | refine LeO.ite ?_ ?_
      | refine LeO.bind ?_ (fun _ => ?_)
    · intro y0 y1 y2 y3 y4
      unfold switchbacklaw17_written.l1
      repeat' first
      | (with_reducible exact ih0 _ _ _ _ _)
      | (with_reducible exact ih1 _ _ _ _ _)
      | (with_reducible exact ih2 _ _ _ _ _)
      | (with_reducible exact LeO.refl _)
      | (with_reducible exact LeO.none _)
      | (with_reducible refine LeO.ite ?_ ?_)
      | (with_reducible refine LeO.bind ?_ (fun _ => ?_))
      | exact ih0 _ _ _ _ _
      | exact ih1 _ _ _ _ _
      | exact ih2 _ _ _ _ _
      | exact LeO.none _
      | refine LeO.ite ?_ ?_
      | refine LeO.bind ?_ (fun _ => ?_)
    · intro y0 y1 y2 y3 y4
      unfold switchbacklaw17_written.l2
      repeat' first
      | (with_reducible exact ih0 _ _ _ _ _)
      | (with_reducible exact ih1 _ _ _ _ _)
      | (with_reducible exact ih2 _ _ _ _ _)
      | (with_reducible exact LeO.refl _)
      | (with_reducible exact LeO.none _)
      | (with_reducible refine LeO.ite ?_ ?_)
      | (with_reducible refine LeO.bind ?_ (fun _ => ?_))
      | exact ih0 _ _ _ _ _
      | exact ih1 _ _ _ _ _
      | exact ih2 _ _ _ _ _
      | exact LeO.none _
      | refine LeO.ite ?_ ?_
      | refine LeO.bind ?_ (fun _ => ?_)
theorem switchbacklaw17_written.mono : ∀ a0 a1 a2 a3 k, LeO (switchbacklaw17_written.f k a0 a1 a2 a3) (switchbacklaw17_written.f (k + 1) a0 a1 a2 a3) := by
  intro a0 a1 a2 a3 k
  obtain ⟨ih0, ih1, ih2⟩ := switchbacklaw17_written.mono_l k
  unfold switchbacklaw17_written.f
  repeat' first
      | (with_reducible exact ih0 _ _ _ _ _)
      | (with_reducible exact ih1 _ _ _ _ _)
      | (with_reducible exact ih2 _ _ _ _ _)
      | (with_reducible exact LeO.refl _)
      | (with_reducible exact LeO.none _)
      | (with_reducible refine LeO.ite ?_ ?_)
      | (with_reducible refine LeO.bind ?_ (fun _ => ?_))
      | exact ih0 _ _ _ _ _
      | exact ih1 _ _ _ _ _
      | exact ih2 _ _ _ _ _
      | exact LeO.none _
      | refine LeO.ite ?_ ?_
      | refine LeO.bind ?_ (fun _ => ?_)
set_option maxHeartbeats 8000000 in
set_option maxRecDepth 100000 in
theorem switchbacklaw17_written.calls (k : Nat) (P0_0_ : Nat → Prop) (u9000_ : Value) (l0_0 : List Int) (P0_1_ : Nat → Prop) (u9001_ : Value) (l0_1 : List Int) (P0_2_ : Nat → Prop) (u9002_ : Value) (l0_2 : List Int) (a0_3 : Int) (r : List Int) (w0 w : World) (hB : Below w0.heap.size w0 w) (ho0_0 : Kd.R (Kd.int .u32) 38 w w0.heap.size P0_0_ u9000_ l0_0) (ho0_1 : Kd.R (Kd.int .i64) 3 w w0.heap.size P0_1_ u9001_ l0_1) (hp0_1_0_2 : ∀ k_, P0_1_ k_ → ¬ P0_2_ k_) (ho0_2 : Kd.R (Kd.int .i64) 3 w w0.heap.size P0_2_ u9002_ l0_2) (hp0_2_0_1 : ∀ k_, P0_2_ k_ → ¬ P0_1_ k_) (h : switchbacklaw17_written.f k l0_0 l0_1 l0_2 a0_3 = some r) :
    Calls Tryd.prog 24 #[.agg #[u9000_, u9001_, u9002_, .int .i64 a0_3]] w fun e w' => e = .returned (.tuple #[]) ∧ Kd.R (Kd.int .u32) 38 w' w0.heap.size (fun k_ => ((P0_0_ k_ ∨ P0_1_ k_ ∨ P0_2_ k_) ∨ w.heap.size ≤ k_)) u9000_ r ∧ Below w0.heap.size w0 w' ∧ Kept w w' (fun k_ => P0_0_ k_ ∨ P0_1_ k_ ∨ P0_2_ k_) := by
 have hu27 := Tryd.underlying27
 have HO0_0 := uZ (show Kd.R (Kd.int .u32) 38 w w0.heap.size (fun k_ => ((P0_0_ k_ ∨ P0_1_ k_ ∨ P0_2_ k_) ∨ w.heap.size ≤ k_)) u9000_ l0_0 from Kd.R_mono ho0_0 (fun k_ hk => (.inl (.inl hk))))
 have HO0_1 := uZ (show Kd.R (Kd.int .i64) 3 w w0.heap.size (fun k_ => ((P0_0_ k_ ∨ P0_1_ k_ ∨ P0_2_ k_) ∨ w.heap.size ≤ k_) ∧ some k_ ≠ (u9002_ : Value).ownBlock) u9001_ l0_1 from Kd.R_mono ho0_1 (fun k_ hk => ⟨(.inl (.inr (.inl hk))), fun e_ => hp0_1_0_2 k_ hk (ho0_2.1 k_ e_.symm)⟩))
 have HO0_2 := uZ (show Kd.R (Kd.int .i64) 3 w w0.heap.size (fun k_ => ((P0_0_ k_ ∨ P0_1_ k_ ∨ P0_2_ k_) ∨ w.heap.size ≤ k_) ∧ some k_ ≠ (u9001_ : Value).ownBlock) u9002_ l0_2 from Kd.R_mono ho0_2 (fun k_ hk => ⟨(.inl (.inr (.inr hk))), fun e_ => hp0_2_0_1 k_ hk (ho0_1.1 k_ e_.symm)⟩))
 have HK := uZ (Kept.refl w (fun k_ => P0_0_ k_ ∨ P0_1_ k_ ∨ P0_2_ k_))
 have HW0 := uZ hB.size
 have HB := uZ hB
 clear hB
 have H : (switchbacklaw17_written.l0 k 0 l0_0 l0_1 l0_2 a0_3) = some r := h
 clear h
 have H' := uZ H
 clear H
 obtain ⟨Ao2, co2, eo2⟩ := zE HO0_0.out
 subst eo2
 obtain ⟨Ao3, co3, eo3⟩ := zE HO0_1.out
 subst eo3
 obtain ⟨Ao4, co4, eo4⟩ := zE HO0_2.out
 subst eo4
 go_enter Tryd.func24, Tryd.ntmps24
 go_wp2_with (first | ((with_reducible refine gate_dst (N := 1) rfl ?_); refine box_event ?hg (N := 1) ?hd (cs := #[.slice Ao2 l0_0.length co2, .slice Ao3 l0_1.length co3, .slice Ao4 l0_2.length co4, .int .i64 a0_3]) (t := 27) ?hr ?_; (case hd => rfl); (case hg => rfl); (case hr => first | (go_simp; done) | (go_simp; rfl)); intro aa hg w5 hbox hb; have n0_ := uZ (Kd.R_below (uR HO0_0.out) hb); have n1_ := uZ (Kd.R_below (uR HO0_1.out) hb); have n2_ := uZ (Kd.R_below (uR HO0_2.out) hb); have n3_ := uZ (Kept.below (S := (fun k_ => P0_0_ k_ ∨ P0_1_ k_ ∨ P0_2_ k_)) (by repeat (first | (with_reducible first | exact HK.out | apply Kept.alloc | apply Kept.drewN | apply Kept.drew) | exact HK.out)) hb); have n4_ := uZ (below_step (by repeat (first | (with_reducible first | exact HB.out | apply below_alloc | apply pw_below_drewN | apply below_drew1) | exact HB.out)) hb); have n5_ := uZ (hbox); have n6_ := uZ ((by rw [hg]; exact (by first | exact HK.out.1 | exact (show Kept w _ (fun k_ => P0_0_ k_ ∨ P0_1_ k_ ∨ P0_2_ k_) from by repeat (first | (with_reducible first | exact HK.out | apply Kept.alloc | apply Kept.drewN | apply Kept.drew) | exact HK.out)).1) : w.heap.size ≤ aa)); have n7_ := uZ ((by rw [hg]; exact (below_size (by repeat (first | (with_reducible first | exact HB.out | apply below_alloc | apply pw_below_drewN | apply below_drew1) | exact HB.out))) : w0.heap.size ≤ aa)); clear HO0_0; clear HO0_1; clear HO0_2; clear HK; clear HB; have HO0_0 := n0_; have HO0_1 := n1_; have HO0_2 := n2_; have HK := n3_; have HB := n4_; have a5 := n5_; have ag := n6_; have al := n7_; clear n0_ n1_ n2_ n3_ n4_ n5_ n6_ n7_; clear hb hbox hg))
 go_loopg [2] k (fun kq v2 w' => ∃ (am : Int) (a4 : List Int), v2 = .int .i64 am ∧ Aside0 (switchbacklaw17_written.l0 kq am a4 l0_1 l0_2 a0_3 = some r) ∧ Aside0 (kq ≤ k) ∧ Aside0 (Kd.R (Kd.int .u32) 38 w' w0.heap.size (fun k_ => ((P0_0_ k_ ∨ P0_1_ k_ ∨ P0_2_ k_) ∨ w.heap.size ≤ k_)) (.slice Ao2 l0_0.length co2) a4) ∧ Aside0 (Kd.R (Kd.int .i64) 3 w' w0.heap.size (fun k_ => ((P0_0_ k_ ∨ P0_1_ k_ ∨ P0_2_ k_) ∨ w.heap.size ≤ k_) ∧ some k_ ≠ ((.slice Ao4 l0_2.length co4) : Value).ownBlock) (.slice Ao3 l0_1.length co3) l0_1) ∧ Aside0 (Kd.R (Kd.int .i64) 3 w' w0.heap.size (fun k_ => ((P0_0_ k_ ∨ P0_1_ k_ ∨ P0_2_ k_) ∨ w.heap.size ≤ k_) ∧ some k_ ≠ ((.slice Ao3 l0_1.length co3) : Value).ownBlock) (.slice Ao4 l0_2.length co4) l0_2) ∧ Aside0 (w'.heap[aa]? = some (.cells #[(.slice Ao2 l0_0.length co2), (.slice Ao3 l0_1.length co3), (.slice Ao4 l0_2.length co4), .int .i64 a0_3] 27 (0, 0))) ∧ Aside0 (Kept w w' (fun k_ => P0_0_ k_ ∨ P0_1_ k_ ∨ P0_2_ k_)) ∧ Aside0 (Below w0.heap.size w0 w'))
 case atStart => exact ⟨(0), (l0_0), (by first | rfl | (simp; done) | (simp [*]; done)), H', ⟨Nat.le_refl _⟩, ⟨uR HO0_0.out⟩, ⟨uR HO0_1.out⟩, ⟨uR HO0_2.out⟩, ⟨uK a5.out⟩, ⟨by repeat (first | (with_reducible first | exact HK.out | apply Kept.alloc | apply Kept.drewN | apply Kept.drew | refine Kept.setCell ?_ (.inr ag.out) _) | exact HK.out)⟩, ⟨uC HB.out al.out⟩⟩
 case round =>
  clear H'
  try clear c2
  try clear p2
  obtain ⟨am, a4, rfl, HA, HK1, a6, a8, a7, a5, HK, HB⟩ := hrel
  have hl299000_1 := (Kd.R_reads' a6.out).1
  rw [hl299000_1] at a6
  (try simp only [hl299000_1])
  (try simp only [hl299000_1] at a5)
  (try simp only [hl299000_1] at a8)
  (try simp only [hl299000_1] at a7)
  cases gk with
  | zero => exact absurd HA.out (by simp [switchbacklaw17_written.l0])
  | succ k1 =>
   have H := HA.out
   clear HA
   simp only [switchbacklaw17_written.l0] at H
   by_cases c6 : am < (a4.length : Int)
   ·rw [if_pos c6] at H
    have c6b0 : decide (am < (a4.length : Int)) = true := decide_eq_true c6
    clear c6
    by_cases c7 : 0 ≤ am
    ·rw [if_pos c7] at H
     have c7b0 : decide (0 ≤ am) = true := decide_eq_true c7
     clear c7
     obtain ⟨y299, hy299⟩ : ∃ y_ : List Int, y_ = (a4.set (am : Int).toNat 7) := ⟨_, rfl⟩
     replace H : (switchbacklaw17_written.l0 k1 (wrap64 (am + 1)) y299 l0_1 l0_2 a0_3) = some r := by first | (rw [hy299]; with_reducible exact H) | (have H2_ := (Option.bind_some _ _).symm.trans H; rw [hy299]; with_reducible exact H2_) | (have H2_ := (Option.bind_some _ _).symm.trans H; with_reducible exact H2_) | with_reducible exact H | (rw [hy299]; exact H) | exact H
     have Ny299 := uZ hy299
     clear hy299
     have H' := uZ H
     clear H
     have hcz9_0 : wr.cell? ⟨aa, 0, none⟩ = some (.slice Ao2 a4.length co2) := (zG a5.out 0).trans rfl
     have hcz9_1 : wr.cell? ⟨aa, 1, none⟩ = some (.slice Ao3 l0_1.length co3) := (zG a5.out 1).trans rfl
     have hcz9_2 : wr.cell? ⟨aa, 2, none⟩ = some (.slice Ao4 l0_2.length co4) := (zG a5.out 2).trans rfl
     have hcz9_3 : wr.cell? ⟨aa, 3, none⟩ = some (.int .i64 a0_3) := (zG a5.out 3).trans rfl
     have hfz9_0 := zF a5.out 0
     have hfz9_1 := zF a5.out 1
     have hfz9_2 := zF a5.out 2
     have hfz9_3 := zF a5.out 3
     have p8 : 0 ≤ (am : Int) := uA
     have q8 : (am : Int) < ((a4.length : Int) : Int) := uA
     obtain ⟨go8, co8, eo8, gb8, gl8, cl8, HG8⟩ := Kd.R_form a6.out (by omega)
     (first | cases eo8 | (injection eo8 with ea_ en_ ec_; (first | subst ea_ | (injection ea_ with ea_; subst ea_)); subst ec_; clear en_))
     have GB8 := uZ gb8
     have GG8 := uZ HG8
     clear gb8 gl8 HG8
     have HMgo8 := uZ (show ((P0_0_ go8 ∨ P0_1_ go8 ∨ P0_2_ go8) ∨ w.heap.size ≤ go8) from (a6.out.1 _ rfl))
     obtain ⟨hx8_0, hf8_0⟩ := Kd.R_celln 0 a6.out (am : Int) p8 q8
     replace p8 := eq_true p8
     replace q8 := eq_true q8
     have HP10 := Kd.R_putg a6.out (am : Int) 7
     go_wp2_with (first | ((with_reducible refine gate_store (t := 38) (p := 17) rfl ?_); refine store_event (t := 38) (p := 17) (v := ?vo_w11) (w1 := (wr.setCell ⟨go8, (am : Int).toNat, none⟩ (.int .u32 7))) ?hg ?ho ?hn ?hr ?_; (case ho => rfl); (case hg => rfl); (case hn => rfl); (case hr => first | (go_simp; done) | (go_simp; rfl)); intro w11 hw; have hg : wr.grownBy w11 (some go8) := (by rw [hw]; exact HP10.2); have hp_ : Kd.R (Kd.int .u32) 38 w11 w0.heap.size (fun k_ => ((P0_0_ k_ ∨ P0_1_ k_ ∨ P0_2_ k_) ∨ w.heap.size ≤ k_)) (.slice (some ⟨go8, 0, none⟩) a4.length co2) y299 := (by rw [hw, Ny299.out]; exact HP10.1); clear HP10; have n0_ := uZ (hp_); have n1_ := uZ (zD (v := (.slice (some ⟨go8, 0, none⟩) a4.length co2)) (uR a8.out) (Kd.R_typed a6.out) (by decide) hg); have n2_ := uZ (zD (v := (.slice (some ⟨go8, 0, none⟩) a4.length co2)) (uR a7.out) (Kd.R_typed a6.out) (by decide) hg); have n3_ := uZ (blk_grown (g := aa) (o := .cells #[.slice (some ⟨go8, 0, none⟩) a4.length co2, .slice Ao3 l0_1.length co3, .slice Ao4 l0_2.length co4, .int .i64 a0_3] 27 (0, 0)) (uK a5.out) hg (Kd.R_ne a6.out a5.out (by decide))); have n4_ := uZ ((by rw [hw]; exact below_set (HB.out) GB8.out : Below w0.heap.size w0 w11)); have n5_ := uZ (Kept.of_grown (S := (fun k_ => P0_0_ k_ ∨ P0_1_ k_ ∨ P0_2_ k_)) hg (by repeat (first | (with_reducible first | exact HK.out | apply Kept.alloc | apply Kept.drewN | apply Kept.drew | refine Kept.setCell ?_ (.inr ag.out) _) | exact HK.out)) (fun k_ e_ => (a6.out.1 k_ e_))); clear a6; clear a8; clear a7; clear a5; clear HB; clear HK; have a6 := n0_; have a8 := n1_; have a7 := n2_; have a5 := n3_; have HB := n4_; have HK := n5_; clear n0_ n1_ n2_ n3_ n4_ n5_; clear hg hw hp_))
     (try simp only [← hl299000_1])
     go_roundg k1
     case measure => have := HK1.out; omega
     case rel => exact ⟨(wrap64 (am + 1)), (y299), (by first | rfl | (simp; done) | (simp [*]; done)), H', ⟨by have := HK1.out; omega⟩, ⟨by (try simp only [hl299000_1]); (with_reducible repeat (first | apply zA | apply zB | apply zC)); exact a6.out⟩, ⟨by (try simp only [hl299000_1]); (with_reducible repeat (first | apply zA | apply zB | apply zC)); exact a8.out⟩, ⟨by (try simp only [hl299000_1]); (with_reducible repeat (first | apply zA | apply zB | apply zC)); exact a7.out⟩, ⟨by (try simp only [hl299000_1]); (with_reducible repeat (first | apply blk_drewN | apply blk_drew | apply blk_alloc)); exact a5.out⟩, ⟨by repeat (first | (with_reducible first | exact HK.out | apply Kept.alloc | apply Kept.drewN | apply Kept.drew | refine Kept.setCell ?_ (.inr ag.out) _) | exact HK.out)⟩, ⟨uC HB.out al.out⟩⟩
    rw [if_neg c7] at H
    exact absurd H (by simp)
   rw [if_neg c6] at H
   have c6b0 : decide (am < (a4.length : Int)) = false := decide_eq_false c6
   clear c6
   have H' := uZ H
   clear H
   have hcz12_0 : wr.cell? ⟨aa, 0, none⟩ = some (.slice Ao2 a4.length co2) := (zG a5.out 0).trans rfl
   have hcz12_1 : wr.cell? ⟨aa, 1, none⟩ = some (.slice Ao3 l0_1.length co3) := (zG a5.out 1).trans rfl
   have hcz12_2 : wr.cell? ⟨aa, 2, none⟩ = some (.slice Ao4 l0_2.length co4) := (zG a5.out 2).trans rfl
   have hcz12_3 : wr.cell? ⟨aa, 3, none⟩ = some (.int .i64 a0_3) := (zG a5.out 3).trans rfl
   have hfz12_0 := zF a5.out 0
   have hfz12_1 := zF a5.out 1
   have hfz12_2 := zF a5.out 2
   have hfz12_3 := zF a5.out 3
   go_wp2
   go_loopg [3] k1 (fun kq v3 w' => ∃ (an : Int) (ab : List Int) (ai : List Int) (ac : Value) (ad : Value), v3 = .int .i64 an ∧ Aside0 (switchbacklaw17_written.l1 kq an a4 ab ai a0_3 = some r) ∧ Aside0 (kq ≤ k1) ∧ Aside0 (Kd.R (Kd.int .u32) 38 w' w0.heap.size (fun k_ => ((P0_0_ k_ ∨ P0_1_ k_ ∨ P0_2_ k_) ∨ w.heap.size ≤ k_)) (.slice Ao2 a4.length co2) a4) ∧ Aside0 (Kd.R (Kd.int .i64) 3 w' w0.heap.size (fun k_ => ((P0_0_ k_ ∨ P0_1_ k_ ∨ P0_2_ k_) ∨ w.heap.size ≤ k_) ∧ some k_ ≠ (ad : Value).ownBlock) ac ab) ∧ Aside0 (Kd.R (Kd.int .i64) 3 w' w0.heap.size (fun k_ => ((P0_0_ k_ ∨ P0_1_ k_ ∨ P0_2_ k_) ∨ w.heap.size ≤ k_) ∧ some k_ ≠ (ac : Value).ownBlock) ad ai) ∧ Aside0 (w'.heap[aa]? = some (.cells #[(.slice Ao2 a4.length co2), ac, ad, .int .i64 a0_3] 27 (0, 0))) ∧ Aside0 (Kept w w' (fun k_ => P0_0_ k_ ∨ P0_1_ k_ ∨ P0_2_ k_)) ∧ Aside0 (Below w0.heap.size w0 w'))
   case atStart => exact ⟨(0), (l0_1), (l0_2), (.slice Ao3 l0_1.length co3), (.slice Ao4 l0_2.length co4), (by first | rfl | (simp; done) | (simp [*]; done)), H', ⟨Nat.le_refl _⟩, ⟨by (try simp only [hl299000_1]); (with_reducible repeat (first | apply zA | apply zB | apply zC)); exact a6.out⟩, ⟨by (try simp only [hl299000_1]); (with_reducible repeat (first | apply zA | apply zB | apply zC)); exact a8.out⟩, ⟨by (try simp only [hl299000_1]); (with_reducible repeat (first | apply zA | apply zB | apply zC)); exact a7.out⟩, ⟨by (try simp only [hl299000_1]); (with_reducible repeat (first | apply blk_drewN | apply blk_drew | apply blk_alloc)); exact a5.out⟩, ⟨by repeat (first | (with_reducible first | exact HK.out | apply Kept.alloc | apply Kept.drewN | apply Kept.drew | refine Kept.setCell ?_ (.inr ag.out) _) | exact HK.out)⟩, ⟨uC HB.out al.out⟩⟩
   case round =>
    clear H'
    try clear c2
    try clear p2
    try clear c6
    try clear c6b0
    try clear p6
    try clear c7
    try clear c7b0
    try clear p8
    try clear q8
    try clear hx8
    try clear hf8
    try clear hcz12_0
    try clear hcz12_1
    try clear hcz12_2
    try clear hcz12_3
    try clear hcz9_0
    try clear hcz9_1
    try clear hcz9_2
    try clear hcz9_3
    try clear hfz12_0
    try clear hfz12_1
    try clear hfz12_2
    try clear hfz12_3
    try clear hfz9_0
    try clear hfz9_1
    try clear hfz9_2
    try clear hfz9_3
    try clear hx8_0
    try clear p2
    try clear p8
    try clear q8
    obtain ⟨an, ab, ai, ac, ad, rfl, HA, HK2, a6, a8, a7, a5, HK, HB⟩ := hrel
    cases gk with
    | zero => exact absurd HA.out (by simp [switchbacklaw17_written.l1])
    | succ k2 =>
     have H := HA.out
     clear HA
     simp only [switchbacklaw17_written.l1] at H
     by_cases c13 : an < (ab.length : Int)
     ·rw [if_pos c13] at H
      have c13b0 : decide (an < (ab.length : Int)) = true := decide_eq_true c13
      clear c13
      by_cases c14 : 0 ≤ an
      ·rw [if_pos c14] at H
       have c14b0 : decide (0 ≤ an) = true := decide_eq_true c14
       clear c14
       obtain ⟨y300, hy300⟩ : ∃ y_ : List Int, y_ = (ab.set (an : Int).toNat (-7)) := ⟨_, rfl⟩
       replace H : (switchbacklaw17_written.l1 k2 (wrap64 (an + 1)) a4 y300 ai a0_3) = some r := by first | (rw [hy300]; with_reducible exact H) | (have H2_ := (Option.bind_some _ _).symm.trans H; rw [hy300]; with_reducible exact H2_) | (have H2_ := (Option.bind_some _ _).symm.trans H; with_reducible exact H2_) | with_reducible exact H | (rw [hy300]; exact H) | exact H
       have Ny300 := uZ hy300
       clear hy300
       have H' := uZ H
       clear H
       have hcz16_0 : wr.cell? ⟨aa, 0, none⟩ = some (.slice Ao2 a4.length co2) := (zG a5.out 0).trans rfl
       have hcz16_1 : wr.cell? ⟨aa, 1, none⟩ = some (ac) := (zG a5.out 1).trans rfl
       have hcz16_2 : wr.cell? ⟨aa, 2, none⟩ = some (ad) := (zG a5.out 2).trans rfl
       have hcz16_3 : wr.cell? ⟨aa, 3, none⟩ = some (.int .i64 a0_3) := (zG a5.out 3).trans rfl
       have hfz16_0 := zF a5.out 0
       have hfz16_1 := zF a5.out 1
       have hfz16_2 := zF a5.out 2
       have hfz16_3 := zF a5.out 3
       obtain ⟨Ao17, co17, eo17⟩ := zE a8.out
       subst eo17
       have p15 : 0 ≤ (an : Int) := uA
       have q15 : (an : Int) < ((ab.length : Int) : Int) := uA
       obtain ⟨go15, co15, eo15, gb15, gl15, cl15, HG15⟩ := Kd.R_form a8.out (by omega)
       (first | cases eo15 | (injection eo15 with ea_ en_ ec_; (first | subst ea_ | (injection ea_ with ea_; subst ea_)); subst ec_; clear en_))
       have GB15 := uZ gb15
       have GG15 := uZ HG15
       clear gb15 gl15 HG15
       have HMgo15 := uZ (show ((P0_0_ go15 ∨ P0_1_ go15 ∨ P0_2_ go15) ∨ w.heap.size ≤ go15) from (a8.out.1 _ rfl).1)
       obtain ⟨hx15_0, hf15_0⟩ := Kd.R_celln 0 a8.out (an : Int) p15 q15
       replace p15 := eq_true p15
       replace q15 := eq_true q15
       have HP18 := Kd.R_putg a8.out (an : Int) (-7)
       go_wp2_with (first | ((with_reducible refine gate_store (t := 3) (p := 28) rfl ?_); refine store_event (t := 3) (p := 28) (v := ?vo_w19) (w1 := (wr.setCell ⟨go15, (an : Int).toNat, none⟩ (.int .i64 (-7)))) ?hg ?ho ?hn ?hr ?_; (case ho => rfl); (case hg => rfl); (case hn => rfl); (case hr => first | (go_simp; done) | (go_simp; rfl)); intro w19 hw; have hg : wr.grownBy w19 (some go15) := (by rw [hw]; exact HP18.2); have hp_ : Kd.R (Kd.int .i64) 3 w19 w0.heap.size (fun k_ => ((P0_0_ k_ ∨ P0_1_ k_ ∨ P0_2_ k_) ∨ w.heap.size ≤ k_) ∧ some k_ ≠ (ad : Value).ownBlock) (.slice (some ⟨go15, 0, none⟩) ab.length co17) y300 := (by rw [hw, Ny300.out]; exact HP18.1); clear HP18; have n0_ := uZ (zD (v := (.slice (some ⟨go15, 0, none⟩) ab.length co17)) (uR a6.out) (Kd.R_typed a8.out) (by decide) hg); have n1_ := uZ (hp_); have n2_ := uZ (Kd.R_after (v := (.slice (some ⟨go15, 0, none⟩) ab.length co17)) (v1 := (.slice (some ⟨go15, 0, none⟩) ab.length co17)) (ok := (fun k_ => ((P0_0_ k_ ∨ P0_1_ k_ ∨ P0_2_ k_) ∨ w.heap.size ≤ k_))) (uR a7.out) hg (.inl rfl)); have n3_ := uZ (blk_grown (g := aa) (o := .cells #[.slice Ao2 a4.length co2, .slice (some ⟨go15, 0, none⟩) ab.length co17, ad, .int .i64 a0_3] 27 (0, 0)) (uK a5.out) hg (Kd.R_ne a8.out a5.out (by decide))); have n4_ := uZ ((by rw [hw]; exact below_set (HB.out) GB15.out : Below w0.heap.size w0 w19)); have n5_ := uZ (Kept.of_grown (S := (fun k_ => P0_0_ k_ ∨ P0_1_ k_ ∨ P0_2_ k_)) hg (by repeat (first | (with_reducible first | exact HK.out | apply Kept.alloc | apply Kept.drewN | apply Kept.drew | refine Kept.setCell ?_ (.inr ag.out) _) | exact HK.out)) (fun k_ e_ => (a8.out.1 k_ e_).1)); clear a6; clear a8; clear a7; clear a5; clear HB; clear HK; have a6 := n0_; have a8 := n1_; have a7 := n2_; have a5 := n3_; have HB := n4_; have HK := n5_; clear n0_ n1_ n2_ n3_ n4_ n5_; clear hg hw hp_))
       go_roundg k2
       case measure => have := HK1.out; have := HK2.out; omega
       case rel => exact ⟨(wrap64 (an + 1)), (y300), (ai), (.slice (some ⟨go15, 0, none⟩) ab.length co17), (ad), (by first | rfl | (simp; done) | (simp [*]; done)), H', ⟨by have := HK1.out; have := HK2.out; omega⟩, ⟨by (try simp only [hl299000_1]); (with_reducible repeat (first | apply zA | apply zB | apply zC)); exact a6.out⟩, ⟨by (try simp only [hl299000_1]); (with_reducible repeat (first | apply zA | apply zB | apply zC)); exact a8.out⟩, ⟨by (try simp only [hl299000_1]); (with_reducible repeat (first | apply zA | apply zB | apply zC)); exact a7.out⟩, ⟨by (try simp only [hl299000_1]); (with_reducible repeat (first | apply blk_drewN | apply blk_drew | apply blk_alloc)); exact a5.out⟩, ⟨by repeat (first | (with_reducible first | exact HK.out | apply Kept.alloc | apply Kept.drewN | apply Kept.drew | refine Kept.setCell ?_ (.inr ag.out) _) | exact HK.out)⟩, ⟨uC HB.out al.out⟩⟩
      rw [if_neg c14] at H
      exact absurd H (by simp)
     rw [if_neg c13] at H
     have c13b0 : decide (an < (ab.length : Int)) = false := decide_eq_false c13
     clear c13
     have H' := uZ H
     clear H
     have hcz20_0 : wr.cell? ⟨aa, 0, none⟩ = some (.slice Ao2 a4.length co2) := (zG a5.out 0).trans rfl
     have hcz20_1 : wr.cell? ⟨aa, 1, none⟩ = some (ac) := (zG a5.out 1).trans rfl
     have hcz20_2 : wr.cell? ⟨aa, 2, none⟩ = some (ad) := (zG a5.out 2).trans rfl
     have hcz20_3 : wr.cell? ⟨aa, 3, none⟩ = some (.int .i64 a0_3) := (zG a5.out 3).trans rfl
     have hfz20_0 := zF a5.out 0
     have hfz20_1 := zF a5.out 1
     have hfz20_2 := zF a5.out 2
     have hfz20_3 := zF a5.out 3
     obtain ⟨Ao21, co21, eo21⟩ := zE a8.out
     subst eo21
     go_wp2
     go_loopg [4] k2 (fun kq v4 w' => ∃ (ao : Int) (ae : List Int) (a9 : List Int) (ac : Value) (ad : Value), v4 = .int .i64 ao ∧ Aside0 (switchbacklaw17_written.l2 kq ao a4 ae a9 a0_3 = some r) ∧ Aside0 (kq ≤ k2) ∧ Aside0 (Kd.R (Kd.int .u32) 38 w' w0.heap.size (fun k_ => ((P0_0_ k_ ∨ P0_1_ k_ ∨ P0_2_ k_) ∨ w.heap.size ≤ k_)) (.slice Ao2 a4.length co2) a4) ∧ Aside0 (Kd.R (Kd.int .i64) 3 w' w0.heap.size (fun k_ => ((P0_0_ k_ ∨ P0_1_ k_ ∨ P0_2_ k_) ∨ w.heap.size ≤ k_) ∧ some k_ ≠ (ad : Value).ownBlock) ac ae) ∧ Aside0 (Kd.R (Kd.int .i64) 3 w' w0.heap.size (fun k_ => ((P0_0_ k_ ∨ P0_1_ k_ ∨ P0_2_ k_) ∨ w.heap.size ≤ k_) ∧ some k_ ≠ (ac : Value).ownBlock) ad a9) ∧ Aside0 (w'.heap[aa]? = some (.cells #[(.slice Ao2 a4.length co2), ac, ad, .int .i64 a0_3] 27 (0, 0))) ∧ Aside0 (Kept w w' (fun k_ => P0_0_ k_ ∨ P0_1_ k_ ∨ P0_2_ k_)) ∧ Aside0 (Below w0.heap.size w0 w'))
     case atStart => exact ⟨(0), (ab), (ai), (.slice Ao21 ab.length co21), (ad), (by first | rfl | (simp; done) | (simp [*]; done)), H', ⟨Nat.le_refl _⟩, ⟨by (try simp only [hl299000_1]); (with_reducible repeat (first | apply zA | apply zB | apply zC)); exact a6.out⟩, ⟨by (try simp only [hl299000_1]); (with_reducible repeat (first | apply zA | apply zB | apply zC)); exact a8.out⟩, ⟨by (try simp only [hl299000_1]); (with_reducible repeat (first | apply zA | apply zB | apply zC)); exact a7.out⟩, ⟨by (try simp only [hl299000_1]); (with_reducible repeat (first | apply blk_drewN | apply blk_drew | apply blk_alloc)); exact a5.out⟩, ⟨by repeat (first | (with_reducible first | exact HK.out | apply Kept.alloc | apply Kept.drewN | apply Kept.drew | refine Kept.setCell ?_ (.inr ag.out) _) | exact HK.out)⟩, ⟨uC HB.out al.out⟩⟩
     case round =>
      clear H'
      try clear c1
      try clear p1
      try clear q1
      try clear hx1
      try clear hf1
      try clear c2
      try clear p2
      try clear c6
      try clear c6b0
      try clear p6
      try clear c7
      try clear c7b0
      try clear p8
      try clear q8
      try clear hx8
      try clear hf8
      try clear c13
      try clear c13b0
      try clear c14
      try clear c14b0
      try clear p15
      try clear q15
      try clear hx15
      try clear hf15
      try clear hcz12_0
      try clear hcz12_1
      try clear hcz12_2
      try clear hcz12_3
      try clear hcz16_0
      try clear hcz16_1
      try clear hcz16_2
      try clear hcz16_3
      try clear hcz20_0
      try clear hcz20_1
      try clear hcz20_2
      try clear hcz20_3
      try clear hcz9_0
      try clear hcz9_1
      try clear hcz9_2
      try clear hcz9_3
      try clear hfz12_0
      try clear hfz12_1
      try clear hfz12_2
      try clear hfz12_3
      try clear hfz16_0
      try clear hfz16_1
      try clear hfz16_2
      try clear hfz16_3
      try clear hfz20_0
      try clear hfz20_1
      try clear hfz20_2
      try clear hfz20_3
      try clear hfz9_0
      try clear hfz9_1
      try clear hfz9_2
      try clear hfz9_3
      try clear hx15_0
      try clear hx8_0
      try clear p15
      try clear p2
      try clear p6
      try clear p8
      try clear q15
      try clear q8
      obtain ⟨ao, ae, a9, ac, ad, rfl, HA, HK3, a6, a8, a7, a5, HK, HB⟩ := hrel
      cases gk with
      | zero => exact absurd HA.out (by simp [switchbacklaw17_written.l2])
      | succ k3 =>
       have H := HA.out
       clear HA
       simp only [switchbacklaw17_written.l2] at H
       by_cases c22 : ao < (a9.length : Int)
       ·rw [if_pos c22] at H
        have c22b0 : decide (ao < (a9.length : Int)) = true := decide_eq_true c22
        clear c22
        by_cases c23 : 0 ≤ ao
        ·rw [if_pos c23] at H
         have c23b0 : decide (0 ≤ ao) = true := decide_eq_true c23
         clear c23
         obtain ⟨y301, hy301⟩ : ∃ y_ : List Int, y_ = (a9.set (ao : Int).toNat (-8)) := ⟨_, rfl⟩
         replace H : (switchbacklaw17_written.l2 k3 (wrap64 (ao + 1)) a4 ae y301 a0_3) = some r := by first | (rw [hy301]; with_reducible exact H) | (have H2_ := (Option.bind_some _ _).symm.trans H; rw [hy301]; with_reducible exact H2_) | (have H2_ := (Option.bind_some _ _).symm.trans H; with_reducible exact H2_) | with_reducible exact H | (rw [hy301]; exact H) | exact H
         have Ny301 := uZ hy301
         clear hy301
         have H' := uZ H
         clear H
         have hcz25_0 : wr.cell? ⟨aa, 0, none⟩ = some (.slice Ao2 a4.length co2) := (zG a5.out 0).trans rfl
         have hcz25_1 : wr.cell? ⟨aa, 1, none⟩ = some (ac) := (zG a5.out 1).trans rfl
         have hcz25_2 : wr.cell? ⟨aa, 2, none⟩ = some (ad) := (zG a5.out 2).trans rfl
         have hcz25_3 : wr.cell? ⟨aa, 3, none⟩ = some (.int .i64 a0_3) := (zG a5.out 3).trans rfl
         have hfz25_0 := zF a5.out 0
         have hfz25_1 := zF a5.out 1
         have hfz25_2 := zF a5.out 2
         have hfz25_3 := zF a5.out 3
         obtain ⟨Ao26, co26, eo26⟩ := zE a7.out
         subst eo26
         have p24 : 0 ≤ (ao : Int) := uA
         have q24 : (ao : Int) < ((a9.length : Int) : Int) := uA
         obtain ⟨go24, co24, eo24, gb24, gl24, cl24, HG24⟩ := Kd.R_form a7.out (by omega)
         (first | cases eo24 | (injection eo24 with ea_ en_ ec_; (first | subst ea_ | (injection ea_ with ea_; subst ea_)); subst ec_; clear en_))
         have GB24 := uZ gb24
         have GG24 := uZ HG24
         clear gb24 gl24 HG24
         have HMgo24 := uZ (show ((P0_0_ go24 ∨ P0_1_ go24 ∨ P0_2_ go24) ∨ w.heap.size ≤ go24) from (a7.out.1 _ rfl).1)
         obtain ⟨hx24_0, hf24_0⟩ := Kd.R_celln 0 a7.out (ao : Int) p24 q24
         replace p24 := eq_true p24
         replace q24 := eq_true q24
         have HP27 := Kd.R_putg a7.out (ao : Int) (-8)
         go_wp2_with (first | ((with_reducible refine gate_store (t := 3) (p := 39) rfl ?_); refine store_event (t := 3) (p := 39) (v := ?vo_w28) (w1 := (wr.setCell ⟨go24, (ao : Int).toNat, none⟩ (.int .i64 (-8)))) ?hg ?ho ?hn ?hr ?_; (case ho => rfl); (case hg => rfl); (case hn => rfl); (case hr => first | (go_simp; done) | (go_simp; rfl)); intro w28 hw; have hg : wr.grownBy w28 (some go24) := (by rw [hw]; exact HP27.2); have hp_ : Kd.R (Kd.int .i64) 3 w28 w0.heap.size (fun k_ => ((P0_0_ k_ ∨ P0_1_ k_ ∨ P0_2_ k_) ∨ w.heap.size ≤ k_) ∧ some k_ ≠ (ac : Value).ownBlock) (.slice (some ⟨go24, 0, none⟩) a9.length co26) y301 := (by rw [hw, Ny301.out]; exact HP27.1); clear HP27; have n0_ := uZ (zD (v := (.slice (some ⟨go24, 0, none⟩) a9.length co26)) (uR a6.out) (Kd.R_typed a7.out) (by decide) hg); have n1_ := uZ (Kd.R_after (v := (.slice (some ⟨go24, 0, none⟩) a9.length co26)) (v1 := (.slice (some ⟨go24, 0, none⟩) a9.length co26)) (ok := (fun k_ => ((P0_0_ k_ ∨ P0_1_ k_ ∨ P0_2_ k_) ∨ w.heap.size ≤ k_))) (uR a8.out) hg (.inl rfl)); have n2_ := uZ (hp_); have n3_ := uZ (blk_grown (g := aa) (o := .cells #[.slice Ao2 a4.length co2, ac, .slice (some ⟨go24, 0, none⟩) a9.length co26, .int .i64 a0_3] 27 (0, 0)) (uK a5.out) hg (Kd.R_ne a7.out a5.out (by decide))); have n4_ := uZ ((by rw [hw]; exact below_set (HB.out) GB24.out : Below w0.heap.size w0 w28)); have n5_ := uZ (Kept.of_grown (S := (fun k_ => P0_0_ k_ ∨ P0_1_ k_ ∨ P0_2_ k_)) hg (by repeat (first | (with_reducible first | exact HK.out | apply Kept.alloc | apply Kept.drewN | apply Kept.drew | refine Kept.setCell ?_ (.inr ag.out) _) | exact HK.out)) (fun k_ e_ => (a7.out.1 k_ e_).1)); clear a6; clear a8; clear a7; clear a5; clear HB; clear HK; have a6 := n0_; have a8 := n1_; have a7 := n2_; have a5 := n3_; have HB := n4_; have HK := n5_; clear n0_ n1_ n2_ n3_ n4_ n5_; clear hg hw hp_))
         go_roundg k3
         case measure => have := HK1.out; have := HK2.out; have := HK3.out; omega
         case rel => exact ⟨(wrap64 (ao + 1)), (ae), (y301), (ac), (.slice (some ⟨go24, 0, none⟩) a9.length co26), (by first | rfl | (simp; done) | (simp [*]; done)), H', ⟨by have := HK1.out; have := HK2.out; have := HK3.out; omega⟩, ⟨by (try simp only [hl299000_1]); (with_reducible repeat (first | apply zA | apply zB | apply zC)); exact a6.out⟩, ⟨by (try simp only [hl299000_1]); (with_reducible repeat (first | apply zA | apply zB | apply zC)); exact a8.out⟩, ⟨by (try simp only [hl299000_1]); (with_reducible repeat (first | apply zA | apply zB | apply zC)); exact a7.out⟩, ⟨by (try simp only [hl299000_1]); (with_reducible repeat (first | apply blk_drewN | apply blk_drew | apply blk_alloc)); exact a5.out⟩, ⟨by repeat (first | (with_reducible first | exact HK.out | apply Kept.alloc | apply Kept.drewN | apply Kept.drew | refine Kept.setCell ?_ (.inr ag.out) _) | exact HK.out)⟩, ⟨uC HB.out al.out⟩⟩
        rw [if_neg c23] at H
        exact absurd H (by simp)
       rw [if_neg c22] at H
       have c22b0 : decide (ao < (a9.length : Int)) = false := decide_eq_false c22
       clear c22
       by_cases c29 : ae.length < 17592186044416
       ·rw [if_pos c29] at H
        have LMc29 := uZ c29
        clear c29
        obtain ⟨ak, hy302⟩ : ∃ y_ : List Int, y_ = (ae ++ [(-9)]) := ⟨_, rfl⟩
        replace H : (if a9.length < 17592186044416 then ((some (a9 ++ [(-9)] : List Int)).bind fun ah => (if 0 ≤ (wrap64 ((ak.length : Int) - 1)) then (if (wrap64 ((ak.length : Int) - 1)) < (ak.length : Int) then (if 0 ≤ (wrap64 ((ah.length : Int) - 1)) then (if (wrap64 ((ah.length : Int) - 1)) < (ah.length : Int) then (some a4) else (none)) else (none)) else (none)) else (none))) else (none)) = some r := by first | (rw [hy302]; with_reducible exact H) | (have H2_ := (Option.bind_some _ _).symm.trans H; rw [hy302]; with_reducible exact H2_) | (have H2_ := (Option.bind_some _ _).symm.trans H; with_reducible exact H2_) | with_reducible exact H | (rw [hy302]; exact H) | exact H
        have Ny302 := uZ hy302
        clear hy302
        by_cases c30 : a9.length < 17592186044416
        ·rw [if_pos c30] at H
         have LMc30 := uZ c30
         clear c30
         obtain ⟨ah, hy305⟩ : ∃ y_ : List Int, y_ = (a9 ++ [(-9)]) := ⟨_, rfl⟩
         replace H : (if 0 ≤ (wrap64 ((ak.length : Int) - 1)) then (if (wrap64 ((ak.length : Int) - 1)) < (ak.length : Int) then (if 0 ≤ (wrap64 ((ah.length : Int) - 1)) then (if (wrap64 ((ah.length : Int) - 1)) < (ah.length : Int) then (some a4) else (none)) else (none)) else (none)) else (none)) = some r := by first | (rw [hy305]; with_reducible exact H) | (have H2_ := (Option.bind_some _ _).symm.trans H; rw [hy305]; with_reducible exact H2_) | (have H2_ := (Option.bind_some _ _).symm.trans H; with_reducible exact H2_) | with_reducible exact H | (rw [hy305]; exact H) | exact H
         have Ny305 := uZ hy305
         clear hy305
         obtain ⟨ap, hji31⟩ : ∃ j_ : Int, (wrap64 ((ak.length : Int) - 1)) = j_ := ⟨_, rfl⟩
         replace H : (if 0 ≤ (ap) then (if (ap) < (ak.length : Int) then (if 0 ≤ (wrap64 ((ah.length : Int) - 1)) then (if (wrap64 ((ah.length : Int) - 1)) < (ah.length : Int) then (some a4) else (none)) else (none)) else (none)) else (none)) = some r := by first | (rw [hji31] at H; exact H) | (simp only [hji31] at H ⊢; exact H)
         have hji31w : (IntKind.i64.wrap ((ak.length : Int) - 1)) = ap := (i64_w _).trans hji31
         by_cases c32 : 0 ≤ (ap)
         ·rw [if_pos c32] at H
          have c32b0 : decide (0 ≤ (ap)) = true := decide_eq_true c32
          clear c32
          by_cases c33 : (ap) < (ak.length : Int)
          ·rw [if_pos c33] at H
           have c33b0 : decide ((ap) < (ak.length : Int)) = true := decide_eq_true c33
           clear c33
           obtain ⟨y308, hy308⟩ : ∃ y_ : List Int, y_ = (ak.set ((ap) : Int).toNat (-10)) := ⟨_, rfl⟩
           replace H : (if 0 ≤ (wrap64 ((ah.length : Int) - 1)) then (if (wrap64 ((ah.length : Int) - 1)) < (ah.length : Int) then (some a4) else (none)) else (none)) = some r := by first | (rw [hy308]; with_reducible exact H) | (have H2_ := (Option.bind_some _ _).symm.trans H; rw [hy308]; with_reducible exact H2_) | (have H2_ := (Option.bind_some _ _).symm.trans H; with_reducible exact H2_) | with_reducible exact H | (rw [hy308]; exact H) | exact H
           have Ny308 := uZ hy308
           clear hy308
           obtain ⟨aq, hji35⟩ : ∃ j_ : Int, (wrap64 ((ah.length : Int) - 1)) = j_ := ⟨_, rfl⟩
           replace H : (if 0 ≤ (aq) then (if (aq) < (ah.length : Int) then (some a4) else (none)) else (none)) = some r := by first | (rw [hji35] at H; exact H) | (simp only [hji35] at H ⊢; exact H)
           have hji35w : (IntKind.i64.wrap ((ah.length : Int) - 1)) = aq := (i64_w _).trans hji35
           by_cases c36 : 0 ≤ (aq)
           ·rw [if_pos c36] at H
            have c36b0 : decide (0 ≤ (aq)) = true := decide_eq_true c36
            clear c36
            by_cases c37 : (aq) < (ah.length : Int)
            ·rw [if_pos c37] at H
             have c37b0 : decide ((aq) < (ah.length : Int)) = true := decide_eq_true c37
             clear c37
             obtain ⟨y309, hy309⟩ : ∃ y_ : List Int, y_ = (ah.set ((aq) : Int).toNat (-10)) := ⟨_, rfl⟩
             replace H : (some a4) = some r := by first | (rw [hy309]; with_reducible exact H) | (have H2_ := (Option.bind_some _ _).symm.trans H; rw [hy309]; with_reducible exact H2_) | (have H2_ := (Option.bind_some _ _).symm.trans H; with_reducible exact H2_) | with_reducible exact H | (rw [hy309]; exact H) | exact H
             have Ny309 := uZ hy309
             clear hy309
             obtain rfl := Option.some.inj H
             have hcz39_0 : wr.cell? ⟨aa, 0, none⟩ = some (.slice Ao2 a4.length co2) := (zG a5.out 0).trans rfl
             have hcz39_1 : wr.cell? ⟨aa, 1, none⟩ = some (ac) := (zG a5.out 1).trans rfl
             have hcz39_2 : wr.cell? ⟨aa, 2, none⟩ = some (ad) := (zG a5.out 2).trans rfl
             have hcz39_3 : wr.cell? ⟨aa, 3, none⟩ = some (.int .i64 a0_3) := (zG a5.out 3).trans rfl
             have hfz39_0 := zF a5.out 0
             have hfz39_1 := zF a5.out 1
             have hfz39_2 := zF a5.out 2
             have hfz39_3 := zF a5.out 3
             obtain ⟨Ao40, co40, eo40⟩ := zE a7.out
             subst eo40
             go_wp2_with (first | ((with_reducible refine gate_builtin (b := .append) (xs := #[.tmp 41, .tmp 42]) rfl ?_); at_builtin; refine Kd.R_append (Kd.int .i64) (w0 := w0) w0.heap.size rfl (.tmp 41) (.tmp 42) 25 3 (.int .i64 0) 8 rfl Tryd.underlying25 info3 rfl (by decide) (by omega) ac ae (-9) [.int .i64 (-9)] (fun k_ => ((P0_0_ k_ ∨ P0_1_ k_ ∨ P0_2_ k_) ∨ w.heap.size ≤ k_) ∧ some k_ ≠ (.slice Ao40 a9.length co40 : Value).ownBlock) (fun _ => False) rfl rfl ?aP (fun _ hk => hk.elim) ?aF ?aO ?aB ?aS ?aL ?_; (case aP => exact rfl); (case aB => exact (uC HB.out al.out)); (case aF => exact (fun k_ hk => ⟨(.inr (Nat.le_trans (by first | exact HK.out.1 | exact (show Kept w _ (fun k_ => P0_0_ k_ ∨ P0_1_ k_ ∨ P0_2_ k_) from by repeat (first | (with_reducible first | exact HK.out | apply Kept.alloc | apply Kept.drewN | apply Kept.drew | refine Kept.setCell ?_ (.inr ag.out) _) | exact HK.out)).1) hk)), Kd.fresh' (Kd.R_lt (uR a7.out)) k_ hk⟩)); (case aO => exact (uR a8.out)); (case aS => exact (below_size (uC HB.out al.out))); (case aL => have := LMc29.out; omega); intro v303 w41 ho hb hg hat; rw [← Ny302.out] at ho; have n0_ := uZ (zD (uR a6.out) (Kd.R_typed (uR a8.out)) (by decide) hg); have n1_ := uZ (Kd.R_after (ok := (fun k_ => ((P0_0_ k_ ∨ P0_1_ k_ ∨ P0_2_ k_) ∨ w.heap.size ≤ k_))) (uR a7.out) hg hat); have n2_ := uZ (blk_grown (g := aa) (o := .cells #[.slice Ao2 a4.length co2, ac, .slice Ao40 a9.length co40, .int .i64 a0_3] 27 (0, 0)) (uK a5.out) hg (Kd.R_ne a8.out a5.out (by decide))); have n3_ := uZ (hb); have n4_ := uZ (Kept.of_grown (S := (fun k_ => P0_0_ k_ ∨ P0_1_ k_ ∨ P0_2_ k_)) hg (by repeat (first | (with_reducible first | exact HK.out | apply Kept.alloc | apply Kept.drewN | apply Kept.drew | refine Kept.setCell ?_ (.inr ag.out) _) | exact HK.out)) (fun k_ e_ => (a8.out.1 k_ e_).1)); have n5_ := uZ (ho); clear a6; clear a7; clear a5; clear HB; clear HK; clear a8; have a6 := n0_; have a7 := n1_; have a5 := n2_; have HB := n3_; have HK := n4_; have af := n5_; clear n0_ n1_ n2_ n3_ n4_ n5_; clear ho hb hg hat; have hcz42_0 : w41.cell? ⟨aa, 0, none⟩ = some (.slice Ao2 a4.length co2) := (zG a5.out 0).trans rfl; have hcz42_1 : w41.cell? ⟨aa, 1, none⟩ = some (ac) := (zG a5.out 1).trans rfl; have hcz42_2 : w41.cell? ⟨aa, 2, none⟩ = some (.slice Ao40 a9.length co40) := (zG a5.out 2).trans rfl; have hcz42_3 : w41.cell? ⟨aa, 3, none⟩ = some (.int .i64 a0_3) := (zG a5.out 3).trans rfl; have hfz42_0 := zF a5.out 0; have hfz42_1 := zF a5.out 1; have hfz42_2 := zF a5.out 2; have hfz42_3 := zF a5.out 3) | ((with_reducible refine gate_builtin (b := .append) (xs := #[.tmp 45, .tmp 46]) rfl ?_); at_builtin; refine Kd.R_append (Kd.int .i64) (w0 := w0) w0.heap.size rfl (.tmp 45) (.tmp 46) 25 3 (.int .i64 0) 8 rfl Tryd.underlying25 info3 rfl (by decide) (by omega) (.slice Ao40 a9.length co40) a9 (-9) [.int .i64 (-9)] (fun k_ => ((P0_0_ k_ ∨ P0_1_ k_ ∨ P0_2_ k_) ∨ w.heap.size ≤ k_) ∧ some k_ ≠ (v303 : Value).ownBlock) (fun _ => False) rfl rfl ?aP (fun _ hk => hk.elim) ?aF ?aO ?aB ?aS ?aL ?_; (case aP => exact rfl); (case aB => exact (uC HB.out al.out)); (case aF => exact (fun k_ hk => ⟨(.inr (Nat.le_trans (by first | exact HK.out.1 | exact (show Kept w _ (fun k_ => P0_0_ k_ ∨ P0_1_ k_ ∨ P0_2_ k_) from by repeat (first | (with_reducible first | exact HK.out | apply Kept.alloc | apply Kept.drewN | apply Kept.drew | refine Kept.setCell ?_ (.inr ag.out) _) | exact HK.out)).1) hk)), Kd.fresh' (Kd.R_lt (uR af.out)) k_ hk⟩)); (case aO => exact (uR a7.out)); (case aS => exact (below_size (uC HB.out al.out))); (case aL => have := LMc30.out; omega); intro v306 w43 ho hb hg hat; rw [← Ny305.out] at ho; have n0_ := uZ (zD (uR a6.out) (Kd.R_typed (uR a7.out)) (by decide) hg); have n1_ := uZ (blk_grown (g := aa) (o := .cells #[.slice Ao2 a4.length co2, ac, .slice Ao40 a9.length co40, .int .i64 a0_3] 27 (0, 0)) (uK a5.out) hg (Kd.R_ne a7.out a5.out (by decide))); have n2_ := uZ (Kd.R_after (ok := (fun k_ => ((P0_0_ k_ ∨ P0_1_ k_ ∨ P0_2_ k_) ∨ w.heap.size ≤ k_))) (uR af.out) hg hat); have n3_ := uZ (hb); have n4_ := uZ (Kept.of_grown (S := (fun k_ => P0_0_ k_ ∨ P0_1_ k_ ∨ P0_2_ k_)) hg (by repeat (first | (with_reducible first | exact HK.out | apply Kept.alloc | apply Kept.drewN | apply Kept.drew | refine Kept.setCell ?_ (.inr ag.out) _) | exact HK.out)) (fun k_ e_ => (a7.out.1 k_ e_).1)); have n5_ := uZ (ho); clear a6; clear a5; clear af; clear HB; clear HK; clear a7; have a6 := n0_; have a5 := n1_; have af := n2_; have HB := n3_; have HK := n4_; have aj := n5_; clear n0_ n1_ n2_ n3_ n4_ n5_; clear ho hb hg hat; obtain ⟨Ao44, co44, eo44⟩ := zE af.out; subst eo44; have p34 : 0 ≤ ((ap) : Int) := uA; have q34 : ((ap) : Int) < ((ak.length : Int) : Int) := uA; obtain ⟨go34, co34, eo34, gb34, gl34, cl34, HG34⟩ := Kd.R_form af.out (by omega); (first | cases eo34 | (injection eo34 with ea_ en_ ec_; (first | subst ea_ | (injection ea_ with ea_; subst ea_)); subst ec_; clear en_)); have GB34 := uZ gb34; have GG34 := uZ HG34; clear gb34 gl34 HG34; have HMgo34 := uZ (show ((P0_0_ go34 ∨ P0_1_ go34 ∨ P0_2_ go34) ∨ w.heap.size ≤ go34) from (af.out.1 _ rfl).1); obtain ⟨hx34_0, hf34_0⟩ := Kd.R_celln 0 af.out ((ap) : Int) p34 q34; replace p34 := eq_true p34; replace q34 := eq_true q34; obtain ⟨hy45_, hz45_⟩ := Kd.R_celln 0 af.out ((ap) : Int) (uA) (uA); have HP45 := Kd.R_putg af.out ((ap) : Int) (-10)) | ((with_reducible refine gate_store (t := 3) (p := 52) rfl ?_); refine store_event (t := 3) (p := 52) (v := ?vo_w46) (w1 := (w43.setCell ⟨go34, ((ap) : Int).toNat, none⟩ (.int .i64 (-10)))) ?hg ?ho ?hn ?hr ?_; (case ho => rfl); (case hg => rfl); (case hn => rfl); (case hr => first | (go_simp; done) | (go_simp; rfl)); intro w46 hw; have hg : w43.grownBy w46 (some go34) := (by rw [hw]; exact HP45.2); have hp_ : Kd.R (Kd.int .i64) 3 w46 w0.heap.size (fun k_ => ((P0_0_ k_ ∨ P0_1_ k_ ∨ P0_2_ k_) ∨ w.heap.size ≤ k_) ∧ some k_ ≠ (v306 : Value).ownBlock) (.slice (some ⟨go34, 0, none⟩) ak.length co44) y308 := (by rw [hw, Ny308.out]; exact HP45.1); clear HP45; have n0_ := uZ (zD (v := (.slice (some ⟨go34, 0, none⟩) ak.length co44)) (uR a6.out) (Kd.R_typed af.out) (by decide) hg); have n1_ := uZ (blk_grown (g := aa) (o := .cells #[.slice Ao2 a4.length co2, ac, .slice Ao40 a9.length co40, .int .i64 a0_3] 27 (0, 0)) (uK a5.out) hg (Kd.R_ne af.out a5.out (by decide))); have n2_ := uZ (hp_); have n3_ := uZ (Kd.R_after (v := (.slice (some ⟨go34, 0, none⟩) ak.length co44)) (v1 := (.slice (some ⟨go34, 0, none⟩) ak.length co44)) (ok := (fun k_ => ((P0_0_ k_ ∨ P0_1_ k_ ∨ P0_2_ k_) ∨ w.heap.size ≤ k_))) (uR aj.out) hg (.inl rfl)); have n4_ := uZ ((by rw [hw]; exact below_set (HB.out) GB34.out : Below w0.heap.size w0 w46)); have n5_ := uZ (Kept.of_grown (S := (fun k_ => P0_0_ k_ ∨ P0_1_ k_ ∨ P0_2_ k_)) hg (by repeat (first | (with_reducible first | exact HK.out | apply Kept.alloc | apply Kept.drewN | apply Kept.drew | refine Kept.setCell ?_ (.inr ag.out) _) | exact HK.out)) (fun k_ e_ => (af.out.1 k_ e_).1)); clear a6; clear a5; clear af; clear aj; clear HB; clear HK; have a6 := n0_; have a5 := n1_; have af := n2_; have aj := n3_; have HB := n4_; have HK := n5_; clear n0_ n1_ n2_ n3_ n4_ n5_; clear hg hw hp_; obtain ⟨Ao47, co47, eo47⟩ := zE aj.out; subst eo47; have p38 : 0 ≤ ((aq) : Int) := uA; have q38 : ((aq) : Int) < ((ah.length : Int) : Int) := uA; obtain ⟨go38, co38, eo38, gb38, gl38, cl38, HG38⟩ := Kd.R_form aj.out (by omega); (first | cases eo38 | (injection eo38 with ea_ en_ ec_; (first | subst ea_ | (injection ea_ with ea_; subst ea_)); subst ec_; clear en_)); have GB38 := uZ gb38; have GG38 := uZ HG38; clear gb38 gl38 HG38; have HMgo38 := uZ (show ((P0_0_ go38 ∨ P0_1_ go38 ∨ P0_2_ go38) ∨ w.heap.size ≤ go38) from (aj.out.1 _ rfl).1); obtain ⟨hx38_0, hf38_0⟩ := Kd.R_celln 0 aj.out ((aq) : Int) p38 q38; replace p38 := eq_true p38; replace q38 := eq_true q38; obtain ⟨hy48_, hz48_⟩ := Kd.R_celln 0 aj.out ((aq) : Int) (uA) (uA); have HP48 := Kd.R_putg aj.out ((aq) : Int) (-10)) | ((with_reducible refine gate_store (t := 3) (p := 57) rfl ?_); refine store_event (t := 3) (p := 57) (v := ?vo_w49) (w1 := (w46.setCell ⟨go38, ((aq) : Int).toNat, none⟩ (.int .i64 (-10)))) ?hg ?ho ?hn ?hr ?_; (case ho => rfl); (case hg => rfl); (case hn => rfl); (case hr => first | (go_simp; done) | (go_simp; rfl)); intro w49 hw; have hg : w46.grownBy w49 (some go38) := (by rw [hw]; exact HP48.2); have hp_ : Kd.R (Kd.int .i64) 3 w49 w0.heap.size (fun k_ => ((P0_0_ k_ ∨ P0_1_ k_ ∨ P0_2_ k_) ∨ w.heap.size ≤ k_) ∧ some k_ ≠ (.slice (some ⟨go34, 0, none⟩) ak.length co44 : Value).ownBlock) (.slice (some ⟨go38, 0, none⟩) ah.length co47) y309 := (by rw [hw, Ny309.out]; exact HP48.1); clear HP48; have n0_ := uZ (zD (v := (.slice (some ⟨go38, 0, none⟩) ah.length co47)) (uR a6.out) (Kd.R_typed aj.out) (by decide) hg); have n1_ := uZ (blk_grown (g := aa) (o := .cells #[.slice Ao2 a4.length co2, ac, .slice Ao40 a9.length co40, .int .i64 a0_3] 27 (0, 0)) (uK a5.out) hg (Kd.R_ne aj.out a5.out (by decide))); have n2_ := uZ (Kd.R_after (v := (.slice (some ⟨go38, 0, none⟩) ah.length co47)) (v1 := (.slice (some ⟨go38, 0, none⟩) ah.length co47)) (ok := (fun k_ => ((P0_0_ k_ ∨ P0_1_ k_ ∨ P0_2_ k_) ∨ w.heap.size ≤ k_))) (uR af.out) hg (.inl rfl)); have n3_ := uZ (hp_); have n4_ := uZ ((by rw [hw]; exact below_set (HB.out) GB38.out : Below w0.heap.size w0 w49)); have n5_ := uZ (Kept.of_grown (S := (fun k_ => P0_0_ k_ ∨ P0_1_ k_ ∨ P0_2_ k_)) hg (by repeat (first | (with_reducible first | exact HK.out | apply Kept.alloc | apply Kept.drewN | apply Kept.drew | refine Kept.setCell ?_ (.inr ag.out) _) | exact HK.out)) (fun k_ e_ => (aj.out.1 k_ e_).1)); clear a6; clear a5; clear af; clear aj; clear HB; clear HK; have a6 := n0_; have a5 := n1_; have af := n2_; have aj := n3_; have HB := n4_; have HK := n5_; clear n0_ n1_ n2_ n3_ n4_ n5_; clear hg hw hp_))
             first | go_end0 | ((try simp only [Exit.inBlock, Exit.then]); refine bodyPost_ret (results_none rfl _ _ _) rfl ?_)
             exact ⟨by first | rfl | (simp [errW_none, errW_some] <;> rfl) | (simp only [← hji31, ← hji35]; first | rfl | (simp [errW_none, errW_some] <;> rfl)) | (simp [*, errW_none, errW_some] <;> rfl), (by first | exact (uR a6.out) | (simp only [hl299000_1]; exact (uR a6.out))), by repeat (first | (with_reducible first | exact HB.out | apply below_alloc | apply pw_below_drewN | apply below_drew1 | refine below_set ?_ al.out) | exact HB.out), by repeat (first | (with_reducible first | exact HK.out | apply Kept.alloc | apply Kept.drewN | apply Kept.drew | refine Kept.setCell ?_ (.inr ag.out) _) | exact HK.out)⟩
            rw [if_neg c37] at H
            exact absurd H (by simp)
           rw [if_neg c36] at H
           exact absurd H (by simp)
          rw [if_neg c33] at H
          exact absurd H (by simp)
         rw [if_neg c32] at H
         exact absurd H (by simp)
        rw [if_neg c30] at H
        exact absurd H (by simp)
       rw [if_neg c29] at H
       exact absurd H (by simp)

end Go.Proofs.YtamimnaafiphcaaDoor.PR1D
