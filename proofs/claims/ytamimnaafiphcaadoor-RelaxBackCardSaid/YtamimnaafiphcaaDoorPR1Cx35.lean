-- Written by gp.py for this claim.
import Derived.Test.YtamimnaafiphcaaDoorPR1CZ
namespace Go.Proofs.YtamimnaafiphcaaDoor.PR1C
open Go.RowKit Go.Proofs.YtamimnaafiphcaaDoorW.PrintWords Go.Proofs.YtamimnaafiphcaaDoorW.PrintLast Go.Proofs.YtamimnaafiphcaaDoorW.PrintMore
attribute [local go_sem] max2_int min2_int max_two min_two max_three min_three max_four min_four   -- for this text's walks alone
set_option linter.unusedVariables false
set_option linter.unusedSimpArgs false

namespace q_switchbacklaw17_Copy
theorem uZ {p : Prop} (h : p) : Aside0 p := ⟨h⟩
theorem uB {p q : Prop} (h : p) (g : p → q := by intro h; repeat (first | (with_reducible first | exact h | apply below_alloc | apply pw_below_drewN | apply below_drew1) | exact h)) : q := g h
theorem uA {p : Prop} [Decidable p] (h : decide p = true := by first | (with_reducible assumption) | assumption) : p := of_decide_eq_true h
theorem zA : type_of% @Kd.V_alloc := @Kd.V_alloc
theorem zB : type_of% @Kd.V_drewN := @Kd.V_drewN
end q_switchbacklaw17_Copy
open q_switchbacklaw17_Copy

/-! ### switchbacklaw17_Copy: function 18 -/
def switchbacklaw17_Copy.l0 : Nat → List (S40) → List (S40) → Int → Option ((List (S40)))
  | 0, _, _, _ => none
  | k + 1, x0, x3, x4 => if x4 < (x3.length : Int) then (if 0 ≤ x4 then (if x4 < (x0.length : Int) then (if ([] : List Int).length + ((rd_T40 x0 x4).f6).length < 17592186044416 then (switchbacklaw17_Copy.l0 k x0 (x3.set (x4 : Int).toNat (⟨(rd_T40 x3 x4).f0, (rd_T40 x3 x4).f1, (rd_T40 x3 x4).f2, (rd_T40 x3 x4).f3, (rd_T40 x3 x4).f4, (rd_T40 x3 x4).f5, (([] : List Int) ++ ((rd_T40 x0 x4).f6))⟩ : S40)) (wrap64 (x4 + 1))) else (none)) else (none)) else (none)) else (some x3)
def switchbacklaw17_Copy.f (k : Nat) (l0 : List (S40)) : Option ((List (S40))) := if ([] : List (S40)).length + l0.length < 1954687338268 then (switchbacklaw17_Copy.l0 k l0 (([] : List (S40)) ++ l0) 0) else (none)
theorem switchbacklaw17_Copy.mono_l : ∀ k, (∀ y0 y1 y2, LeO (switchbacklaw17_Copy.l0 k y0 y1 y2) (switchbacklaw17_Copy.l0 (k + 1) y0 y1 y2))
  | 0 => fun _ _ _ r h => by simp [switchbacklaw17_Copy.l0] at h
  | k + 1 => by
    have ih0 := switchbacklaw17_Copy.mono_l k
    · intro y0 y1 y2
      unfold switchbacklaw17_Copy.l0
      repeat' first
      | (with_reducible exact ih0 _ _ _)
      | (with_reducible exact LeO.refl _)
      | (with_reducible exact LeO.none _)
      | (with_reducible refine LeO.ite ?_ ?_)
      | (with_reducible refine LeO.bind ?_ (fun _ => ?_))
      | exact ih0 _ _ _
      | exact LeO.none _
      | refine LeO.ite ?_ ?_
      | refine LeO.bind ?_ (fun _ => ?_)
theorem switchbacklaw17_Copy.mono : ∀ a0 k, LeO (switchbacklaw17_Copy.f k a0) (switchbacklaw17_Copy.f (k + 1) a0) := by
  intro a0 k
  have ih0 := switchbacklaw17_Copy.mono_l k
  unfold switchbacklaw17_Copy.f
  repeat' first
      | (with_reducible exact ih0 _ _ _)
      | (with_reducible exact LeO.refl _)
      | (with_reducible exact LeO.none _)
      | (with_reducible refine LeO.ite ?_ ?_)
      | (with_reducible refine LeO.bind ?_ (fun _ => ?_))
      | exact ih0 _ _ _
      | exact LeO.none _
      | refine LeO.ite ?_ ?_
      | refine LeO.bind ?_ (fun _ => ?_)
set_option maxHeartbeats 8000000 in
set_option maxRecDepth 100000 in
theorem switchbacklaw17_Copy.calls (k : Nat) (P0_ : Nat → Prop) (A0 : Option Addr) (c0 : Nat) (l0 : List (S40)) (r : List (S40)) (w : World) (hs0 : Kd.V k40 40 w w.heap.size (fun k_ => P0_ k_) (.slice A0 l0.length c0) l0) (h : switchbacklaw17_Copy.f k l0 = some r) :
    Calls Tryd.prog 18 #[.slice A0 l0.length c0] w fun e w' => ∃ v0_ : Value, e = .returned (v0_) ∧ Kd.N k40 40 w' w.heap.size (fun k_ => (P0_ k_ ∨ w.heap.size ≤ k_)) v0_ r ∧ Below w.heap.size w w' := by
 have HO0 := uZ (show Kd.V k40 40 w w.heap.size (fun k_ => (P0_ k_ ∨ w.heap.size ≤ k_)) (.slice A0 l0.length c0) l0 from Kd.V_mono hs0 (fun k_ hk => .inl hk))
 have HB := uZ (Below.refl w.heap.size w)
 have H : (if ([] : List (S40)).length + l0.length < 1954687338268 then (switchbacklaw17_Copy.l0 k l0 (([] : List (S40)) ++ l0) 0) else (none)) = some r := h
 clear h
 by_cases c2 : ([] : List (S40)).length + l0.length < 1954687338268
 ·rw [if_pos c2] at H
  have LMc2 := uZ c2
  clear c2
  obtain ⟨y222, hy222⟩ : ∃ y_ : List (S40), y_ = (([] : List (S40)) ++ l0) := ⟨_, rfl⟩
  replace H : (switchbacklaw17_Copy.l0 k l0 y222 0) = some r := by first | (rw [hy222]; with_reducible exact H) | (have H2_ := (Option.bind_some _ _).symm.trans H; rw [hy222]; with_reducible exact H2_) | (have H2_ := (Option.bind_some _ _).symm.trans H; with_reducible exact H2_) | with_reducible exact H | (rw [hy222]; exact H) | exact H
  have Ny222 := uZ hy222
  clear hy222
  have H' := uZ H
  clear H
  go_enter Tryd.func18, Tryd.ntmps18
  go_wp2_with (first | ((with_reducible refine gate_builtin (b := .append) (xs := #[.tmp 6, .tmp 7]) rfl ?_); at_builtin; refine Kd.N_append_rows k40 (w0 := w) w.heap.size rfl (.tmp 6) (.tmp 7) 22 40 (.agg #[(.int .i64 0), (.int .i64 0), (.int .i64 0), (.int .i64 0), (.int .u32 0), (.int .i64 0), (.slice none 0 0)]) 72 rfl Tryd.underlying22 info40 rfl (by decide) (by omega) (.slice none 0 0) ([] : List (S40)) l0 _ _ _ (fun k_ => (P0_ k_ ∨ w.heap.size ≤ k_)) (fun k_ => ((fun k_ => (P0_ k_ ∨ w.heap.size ≤ k_))) k_ ∧ some k_ ≠ (.slice none 0 0 : Value).ownBlock) rfl rfl ?aO ?aR (fun _ hk => hk) ?aF ?aB ?aS ?aL ?_; (case aR => exact (by skip; exact Kd.V_F (Kd.V_mono (ok' := (fun k_ => ((fun k_ => (P0_ k_ ∨ w.heap.size ≤ k_))) k_ ∧ some k_ ≠ (.slice none 0 0 : Value).ownBlock)) (HO0.out) (fun k_ hk => ⟨hk, (by simp [Value.ownBlock])⟩)))); (case aB => exact (uB HB.out)); (case aF => exact (fun k_ hk => (.inr (Nat.le_trans (below_size (uB HB.out)) hk)))); (case aO => exact ((Kd.N_nil _ _ _ _ (fun k_ => (P0_ k_ ∨ w.heap.size ≤ k_))))); (case aS => exact (below_size (uB HB.out))); (case aL => have := LMc2.out; omega); intro v223 w3 ho hb hg hat; rw [← Ny222.out] at ho; have n0_ := uZ (Kd.V_afterv (Kd.V_apart_nil (by (with_reducible repeat (first | apply zA | apply zB | apply Kd.V_drew)); exact HO0.out)) hg hat); have n1_ := uZ (hb); have n2_ := uZ (ho); clear HO0; clear HB; have HO0 := n0_; have HB := n1_; have HO224 := n2_; clear n0_ n1_ n2_; clear ho hb hg hat))
  go_loopg [4] k (fun kq v4 w' => ∃ (a2 : List (S40)) (a1 : Int), v4 = .int .i64 a1 ∧ Aside0 (switchbacklaw17_Copy.l0 kq l0 a2 a1 = some r) ∧ Aside0 (kq ≤ k) ∧ Aside0 (Kd.V k40 40 w' w.heap.size (fun k_ => (P0_ k_ ∨ w.heap.size ≤ k_) ∧ some k_ ≠ (v223 : Value).ownBlock) (.slice A0 l0.length c0) l0) ∧ Aside0 (Kd.N k40 40 w' w.heap.size (fun k_ => (P0_ k_ ∨ w.heap.size ≤ k_)) v223 a2) ∧ Aside0 (Below w.heap.size w w'))
  case atStart => exact ⟨(y222), (0), (by first | rfl | (simp; done) | (simp [*]; done)), H', ⟨Nat.le_refl _⟩, ⟨by (with_reducible repeat (first | apply zA | apply zB | apply Kd.V_drew)); exact HO0.out⟩, ⟨by (with_reducible repeat (first | apply Kd.N_alloc | apply Kd.N_drewN | apply Kd.N_drew)); exact HO224.out⟩, ⟨uB HB.out⟩⟩
  case round =>
   clear H'
   try clear c1
   try clear c2
   try clear p2
   obtain ⟨a2, a1, rfl, HA, HK1, HO_0, a3, HB⟩ := hrel
   cases gk with
   | zero => exact absurd HA.out (by simp [switchbacklaw17_Copy.l0])
   | succ k1 =>
    have H := HA.out
    clear HA
    simp only [switchbacklaw17_Copy.l0] at H
    by_cases c4 : a1 < (a2.length : Int)
    ·rw [if_pos c4] at H
     have c4b0 : decide (a1 < (a2.length : Int)) = true := decide_eq_true c4
     clear c4
     by_cases c5 : 0 ≤ a1
     ·rw [if_pos c5] at H
      have c5b0 : decide (0 ≤ a1) = true := decide_eq_true c5
      clear c5
      by_cases c6 : a1 < (l0.length : Int)
      ·rw [if_pos c6] at H
       have c6b0 : decide (a1 < (l0.length : Int)) = true := decide_eq_true c6
       clear c6
       by_cases c7 : ([] : List Int).length + ((rd_T40 l0 a1).f6).length < 17592186044416
       ·rw [if_pos c7] at H
        have LMc7 := uZ c7
        clear c7
        obtain ⟨y226, hy226⟩ : ∃ y_ : List Int, y_ = (([] : List Int) ++ ((rd_T40 l0 a1).f6)) := ⟨_, rfl⟩
        replace H : (switchbacklaw17_Copy.l0 k1 l0 (a2.set (a1 : Int).toNat (⟨(rd_T40 a2 a1).f0, (rd_T40 a2 a1).f1, (rd_T40 a2 a1).f2, (rd_T40 a2 a1).f3, (rd_T40 a2 a1).f4, (rd_T40 a2 a1).f5, y226⟩ : S40)) (wrap64 (a1 + 1))) = some r := by first | (rw [hy226]; with_reducible exact H) | (have H2_ := (Option.bind_some _ _).symm.trans H; rw [hy226]; with_reducible exact H2_) | (have H2_ := (Option.bind_some _ _).symm.trans H; with_reducible exact H2_) | with_reducible exact H | (rw [hy226]; exact H) | exact H
        have Ny226 := uZ hy226
        clear hy226
        obtain ⟨y229, hy229⟩ : ∃ y_ : List (S40), y_ = (a2.set (a1 : Int).toNat (⟨(rd_T40 a2 a1).f0, (rd_T40 a2 a1).f1, (rd_T40 a2 a1).f2, (rd_T40 a2 a1).f3, (rd_T40 a2 a1).f4, (rd_T40 a2 a1).f5, y226⟩ : S40)) := ⟨_, rfl⟩
        replace H : (switchbacklaw17_Copy.l0 k1 l0 y229 (wrap64 (a1 + 1))) = some r := by first | (rw [hy229]; with_reducible exact H) | (have H2_ := (Option.bind_some _ _).symm.trans H; rw [hy229]; with_reducible exact H2_) | (have H2_ := (Option.bind_some _ _).symm.trans H; with_reducible exact H2_) | with_reducible exact H | (rw [hy229]; exact H) | exact H
        have Ny229 := uZ hy229
        clear hy229
        have H' := uZ H
        clear H
        obtain ⟨Ao9, co9, eo9⟩ := Kd.N_slice a3.out
        subst eo9
        have p225 : 0 ≤ (a1 : Int) := uA
        have q225 : a1 < (l0.length : Int) := uA
        obtain ⟨ad225, A225_6, c225_6, e225, hx225_0, hx225_1, hx225_2, hx225_3, hx225_4, hx225_5, hx225_6, hl225_6, hi225_6⟩ := at_T40 (Kd.V_reads' HO_0.out).2.2 a1 p225 q225
        cases e225
        obtain ⟨ce225, hce225, hMe225, hcc225⟩ := Kd.V_get HO_0.out z40 a1 p225 (by first | exact q225 | exact uA | (have e_ := (Kd.V_reads' HO_0.out).1; omega))
        obtain ⟨ua225_6, uc225_6, rfl, ul225_6, ge225_6⟩ := k40_openF hMe225
        have hv225_6 := hcc225 6 _ rfl
        rw [add_field _ _ 6 (by omega)] at hv225_6
        replace hv225_6 := Option.some.inj (hv225_6.symm.trans hx225_6)
        injection hv225_6 with hva_ hvn_ hvc_
        rw [hva_] at ge225_6
        rw [hvc_] at ul225_6
        have HL225_6 := uZ (show Kd.V (Kd.int .i64) 3 _ w.heap.size _ _ ((rd_T40 l0 a1).f6) from Kd.V_mk ul225_6 ge225_6)
        clear hva_ hvn_ hvc_ ge225_6 ul225_6
        clear hcc225 hce225
        have HR225_6 := uZ hi225_6
        have HC225_6 := uZ hl225_6
        clear hi225_6 hl225_6
        replace p225 := eq_true p225
        replace q225 := eq_true q225
        go_wp2_with (first | ((with_reducible refine gate_builtin (b := .append) (xs := #[.tmp 17, .tmp 22]) rfl ?_); at_builtin; refine Kd.R_append_rows (Kd.int .i64) (w0 := w) w.heap.size rfl (.tmp 17) (.tmp 22) 25 3 (.int .i64 0) 8 rfl Tryd.underlying25 info3 rfl (by decide) (by omega) (.slice none 0 0) ([] : List Int) ((rd_T40 l0 a1).f6) _ _ _ (fun k_ => (w.heap.size ≤ k_)) (fun _ => False) rfl rfl ?aO ?aR (fun _ _ h => h) (fun _ h => h.elim) ?aF ?aB ?aS ?aL ?_; (case aR => repeat (first | exact (by repeat (first | (with_reducible exact HR225_6.out) | (with_reducible refine Kd.C_alloc ?_ _) | (with_reducible refine Kd.C_drewN ?_ _) | (with_reducible refine Kd.C_drew ?_) | exact HR225_6.out)) | (with_reducible refine Kd.C_alloc ?_ _) | (with_reducible refine Kd.C_drewN ?_ _) | (with_reducible refine Kd.C_drew ?_))); (case aB => exact (uB HB.out)); (case aF => exact (fun k_ hk => (Nat.le_trans (below_size (uB HB.out)) hk))); (case aO => exact ((Kd.R_nil _ _ _ _ (fun k_ => (w.heap.size ≤ k_))))); (case aS => exact (below_size (uB HB.out))); (case aL => have := LMc7.out; omega); intro v227 w10 ho hb hg hat; rw [← Ny226.out] at ho; obtain ⟨Aq_, cq_, rfl⟩ := Kd.R_slice ho; have n0_ := uZ (Kd.V_afterv (Kd.V_apart_nil (by (with_reducible repeat (first | apply zA | apply zB | apply Kd.V_drew)); exact HO_0.out)) hg hat); have n1_ := uZ (Kd.N_afterv (Kd.N_apart_nil (by (with_reducible repeat (first | apply Kd.N_alloc | apply Kd.N_drewN | apply Kd.N_drew)); exact a3.out)) hg hat); have n2_ := uZ (Kd.V_afterv (Kd.V_apart_nil (by (with_reducible repeat (first | apply zA | apply zB | apply Kd.V_drew)); exact HL225_6.out)) hg hat); have n3_ := uZ (hb); have n4_ := uZ (ho); clear HO_0; clear a3; clear HL225_6; clear HB; have HO_0 := n0_; have a3 := n1_; have HL225_6 := n2_; have HB := n3_; have HO228 := n4_; clear n0_ n1_ n2_ n3_ n4_; clear ho hb hg hat; have p8 : 0 ≤ (a1 : Int) := uA; have q8 : (a1 : Int) < ((a2.length : Int) : Int) := uA; obtain ⟨go8, co8, eo8, gb8, gl8, cl8, HG8⟩ := Kd.N_form a3.out (by omega); (first | cases eo8 | (injection eo8 with ea_ en_ ec_; (first | subst ea_ | (injection ea_ with ea_; subst ea_)); subst ec_; clear en_)); have GB8 := uZ gb8; have GG8 := uZ HG8; clear gb8 gl8 HG8; obtain ⟨ce8, hcl8, hM8, hcc8, hfr8⟩ := Kd.N_elem a3.out z40 (a1 : Int) p8 q8; obtain ⟨ua8_6, uc8_6, rfl, ul8_6, ge8_6⟩ := k40_openF hM8; have hx8_0 : w10.cell? ⟨go8, (a1 : Int).toNat * 7, none⟩ = some (.int .i64 ((rd_T40 a2 a1).f0)) := hcc8 0 _ rfl; have hx8_1 : w10.cell? ⟨go8, (a1 : Int).toNat * 7 + 1, none⟩ = some (.int .i64 ((rd_T40 a2 a1).f1)) := hcc8 1 _ rfl; have hx8_2 : w10.cell? ⟨go8, (a1 : Int).toNat * 7 + 2, none⟩ = some (.int .i64 ((rd_T40 a2 a1).f2)) := hcc8 2 _ rfl; have hx8_3 : w10.cell? ⟨go8, (a1 : Int).toNat * 7 + 3, none⟩ = some (.int .i64 ((rd_T40 a2 a1).f3)) := hcc8 3 _ rfl; have hx8_4 : w10.cell? ⟨go8, (a1 : Int).toNat * 7 + 4, none⟩ = some (.int .u32 ((rd_T40 a2 a1).f4)) := hcc8 4 _ rfl; have hx8_5 : w10.cell? ⟨go8, (a1 : Int).toNat * 7 + 5, none⟩ = some (.int .i64 ((rd_T40 a2 a1).f5)) := hcc8 5 _ rfl; have hx8_6 : w10.cell? ⟨go8, (a1 : Int).toNat * 7 + 6, none⟩ = some (.slice ua8_6 ((rd_T40 a2 a1).f6).length uc8_6) := hcc8 6 _ rfl; have hf8_0 : w10.frozen? ⟨go8, (a1 : Int).toNat * 7, none⟩ = false := hfr8 0; have hf8_1 : w10.frozen? ⟨go8, (a1 : Int).toNat * 7 + 1, none⟩ = false := hfr8 1; have hf8_2 : w10.frozen? ⟨go8, (a1 : Int).toNat * 7 + 2, none⟩ = false := hfr8 2; have hf8_3 : w10.frozen? ⟨go8, (a1 : Int).toNat * 7 + 3, none⟩ = false := hfr8 3; have hf8_4 : w10.frozen? ⟨go8, (a1 : Int).toNat * 7 + 4, none⟩ = false := hfr8 4; have hf8_5 : w10.frozen? ⟨go8, (a1 : Int).toNat * 7 + 5, none⟩ = false := hfr8 5; have hf8_6 : w10.frozen? ⟨go8, (a1 : Int).toNat * 7 + 6, none⟩ = false := hfr8 6; clear hcl8 hcc8 hfr8 hM8; replace p8 := eq_true p8; replace q8 := eq_true q8; have HX11 := uZ (show Kd.N k40 40 w10 w.heap.size (fun k_ => (P0_ k_ ∨ w.heap.size ≤ k_)) (.slice (some ⟨go8, 0, none⟩) a2.length co9) a2 from (by (with_reducible repeat (first | apply Kd.N_alloc | apply Kd.N_drewN | apply Kd.N_drew)); exact Kd.N_mono a3.out (fun _ hk => hk.1))); obtain ⟨ce11, hcl11, hM11, hcc11, hfr11⟩ := Kd.N_elem HX11.out z40 (a1 : Int) (uA) (by have h_ : (a1 : Int) < ((a2.length : Int) : Int) := uA; first | exact h_ | (have e_ := (Kd.N_reads' a3.out).1; omega) | simpa using h_); obtain ⟨ua11_6, uc11_6, rfl, ul11_6, ge11_6⟩ := k40_openF hM11; have HP11 := Kd.N_seg HX11.out (a1 : Int) (uA) (by have h_ : (a1 : Int) < ((a2.length : Int) : Int) := uA; first | exact h_ | (have e_ := (Kd.N_reads' a3.out).1; omega) | simpa using h_) (seg := [(.slice Aq_ y226.length cq_)]) (j := 6) hcl11 hcc11 (show 7 ≤ 7 from by decide) (x' := (⟨(rd_T40 a2 a1).f0, (rd_T40 a2 a1).f1, (rd_T40 a2 a1).f2, (rd_T40 a2 a1).f3, (rd_T40 a2 a1).f4, (rd_T40 a2 a1).f5, y226⟩ : S40)) (k40_mkF _ _ (⟨(rd_T40 a2 a1).f0, (rd_T40 a2 a1).f1, (rd_T40 a2 a1).f2, (rd_T40 a2 a1).f3, (rd_T40 a2 a1).f4, (rd_T40 a2 a1).f5, y226⟩ : S40) (Kd.R_reads' (Kd.R_mono (ok' := (fun k_ => ((fun k_ => (P0_ k_ ∨ w.heap.size ≤ k_))) k_ ∧ k_ ≠ go8)) (Kd.R_apart' (HO228.out) (Kd.N_typed a3.out) (by decide)) (fun k_ hk => ⟨(.inr (hk.1)), fun e_ => (hk.2) (by rw [e_]; rfl)⟩))).2.1 (Kd.R_F (Kd.R_mono (ok' := (fun k_ => ((fun k_ => (P0_ k_ ∨ w.heap.size ≤ k_))) k_ ∧ k_ ≠ go8)) (Kd.R_apart' (HO228.out) (Kd.N_typed a3.out) (by decide)) (fun k_ hk => ⟨(.inr (hk.1)), fun e_ => (hk.2) (by rw [e_]; rfl)⟩)))) (fun _ hk => hk); have hx11_6 := hcc11 6 _ rfl; (try simp only [show (k40).sz = 7 from rfl, Nat.mul_one, Nat.add_zero] at hx11_6); have hf11_6 := hfr11 6; (try simp only [show (k40).sz = 7 from rfl, Nat.mul_one, Nat.add_zero] at hf11_6); clear hcl11 hcc11 hfr11 hM11) | ((with_reducible refine gate_store (t := 25) (p := 25) rfl ?_); refine store_event (t := 25) (p := 25) (v := ?vo_w12) (w1 := (w10.setCell ⟨go8, (a1 : Int).toNat * 7 + 6, none⟩ (.slice Aq_ y226.length cq_))) ?hg ?ho ?hn ?hr ?_; (case ho => rfl); (case hg => rfl); (case hn => rfl); (case hr => first | (go_simp; done) | (go_simp; rfl)); intro w12 hw; have hg : w10.grownBy w12 (some go8) := (by rw [hw]; exact HP11.2); have hp_ : Kd.N k40 40 w12 w.heap.size (fun k_ => (P0_ k_ ∨ w.heap.size ≤ k_)) (.slice (some ⟨go8, 0, none⟩) a2.length co9) y229 := (by rw [hw, Ny229.out]; exact HP11.1); clear HP11; have n0_ := uZ (Kd.V_afterv (v := (.slice (some ⟨go8, 0, none⟩) a2.length co9)) (v1 := (.slice (some ⟨go8, 0, none⟩) a2.length co9)) (ok := (fun k_ => (P0_ k_ ∨ w.heap.size ≤ k_) ∧ some k_ ≠ ((.slice Aq_ y226.length cq_) : Value).ownBlock)) (by (with_reducible repeat (first | apply zA | apply zB | apply Kd.V_drew)); exact Kd.V_mono HO_0.out (fun _ hk => ⟨⟨hk.1.1, hk.2⟩, hk.1.2⟩)) hg (.inl rfl)); have n1_ := uZ (hp_); have n2_ := uZ (Kd.V_afterv (v := (.slice (some ⟨go8, 0, none⟩) a2.length co9)) (v1 := (.slice (some ⟨go8, 0, none⟩) a2.length co9)) (ok := (fun k_ => (P0_ k_ ∨ w.heap.size ≤ k_) ∧ some k_ ≠ ((.slice Aq_ y226.length cq_) : Value).ownBlock)) (by (with_reducible repeat (first | apply zA | apply zB | apply Kd.V_drew)); exact Kd.V_mono HL225_6.out (fun _ hk => ⟨⟨hk.1.1, hk.2⟩, hk.1.2⟩)) hg (.inl rfl)); have n3_ := uZ ((by rw [hw]; exact below_set (HB.out) GB8.out : Below w.heap.size w w12)); clear HO_0; clear a3; clear HL225_6; clear HB; clear HO228; have HO_0 := n0_; have a3 := n1_; have HL225_6 := n2_; have HB := n3_; clear n0_ n1_ n2_ n3_; clear hg hw hp_))
        go_roundg k1
        case measure => have := HK1.out; omega
        case rel => exact ⟨(y229), (wrap64 (a1 + 1)), (by first | rfl | (simp; done) | (simp [*]; done)), H', ⟨by have := HK1.out; omega⟩, ⟨by (with_reducible repeat (first | apply zA | apply zB | apply Kd.V_drew)); exact Kd.V_mono HO_0.out (fun _ hk => ⟨hk.1.1, hk.2⟩)⟩, ⟨by (with_reducible repeat (first | apply Kd.N_alloc | apply Kd.N_drewN | apply Kd.N_drew)); exact a3.out⟩, ⟨uB HB.out⟩⟩
       rw [if_neg c7] at H
       exact absurd H (by simp)
      rw [if_neg c6] at H
      exact absurd H (by simp)
     rw [if_neg c5] at H
     exact absurd H (by simp)
    rw [if_neg c4] at H
    have c4b0 : decide (a1 < (a2.length : Int)) = false := decide_eq_false c4
    clear c4
    obtain rfl := Option.some.inj H
    obtain ⟨Ao13, co13, eo13⟩ := Kd.N_slice a3.out
    subst eo13
    go_wp2
    go_ret
    exact ⟨_, by first | rfl | (simp [errW_none, errW_some] <;> rfl) | (simp [*, errW_none, errW_some] <;> rfl), by (with_reducible repeat (first | apply Kd.N_alloc | apply Kd.N_drewN | apply Kd.N_drew)); exact a3.out, by repeat (first | (with_reducible first | exact HB.out | apply below_alloc | apply pw_below_drewN | apply below_drew1) | exact HB.out)⟩
 rw [if_neg c2] at H
 exact absurd H (by simp)

end Go.Proofs.YtamimnaafiphcaaDoor.PR1C
