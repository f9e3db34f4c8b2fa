/- Texts joined: PZ3x78 PZ3x79 PZ3x88 PZ3x102 PZ3x103 PZ3x104. -/
import Derived.Test.YtlhgfhmdhmgmpaaGreatDoorPZ3A
import Derived.Test.YtlhgfhmdhmgmpaaGreatDoorLiYZ
import Derived.Test.YtlhgfhmdhmgmpaaGreatDoorLsZ
import Derived.Test.YtlhgfhmdhmgmpaaGreatDoorPuSZ
set_option linter.unusedVariables false
namespace Go.Proofs.YtlhgfhmdhmgmpaaGreatDoor.PZ3
open Go.RowKit Go.Proofs.YtlhgfhmdhmgmpaaGreatDoorW.PrintWords Go.Proofs.YtlhgfhmdhmgmpaaGreatDoorW.PrintLast Go.Proofs.YtlhgfhmdhmgmpaaGreatDoorW.PrintMore

/-! ### switchbacklaw22_live: function 10 -/
def switchbacklaw22_live.f : Option Bool := some true

theorem switchbacklaw22_live.calls (r : Bool) (w : World) (hLaid_ : Aside0 (SLaid w)) (h : switchbacklaw22_live.f = some r) :
    Calls Tryz.prog 10 #[] w fun e w' => e = .returned (.bool r) ∧ Below w.heap.size w w' := by
  simp only [switchbacklaw22_live.f, Option.some.injEq] at h
  subst h
  exact live_any w hLaid_.out.l

end Go.Proofs.YtlhgfhmdhmgmpaaGreatDoor.PZ3

-- Written by gp.py for this claim.
namespace Go.Proofs.YtlhgfhmdhmgmpaaGreatDoor.PZ3
open Go.RowKit Go.Proofs.YtlhgfhmdhmgmpaaGreatDoorW.PrintWords Go.Proofs.YtlhgfhmdhmgmpaaGreatDoorW.PrintLast Go.Proofs.YtlhgfhmdhmgmpaaGreatDoorW.PrintMore
attribute [local go_sem] max2_int min2_int max_two min_two max_three min_three max_four min_four   -- for this text's walks alone
set_option linter.unusedVariables false
set_option linter.unusedSimpArgs false

namespace q_switchbacklaw18_Copy
theorem uZ {p : Prop} (h : p) : Aside0 p := ⟨h⟩
theorem uK {p q : Prop} (h : p) (g : p → q := by intro h; (with_reducible repeat (first | apply blk_drewN | apply blk_drew | apply blk_alloc)); exact h) : q := g h
theorem zA : type_of% @Kd.R_alloc := @Kd.R_alloc
theorem zB : type_of% @Kd.R_drewN := @Kd.R_drewN
theorem zC : type_of% @Kd.R_far := @Kd.R_far
theorem zD : type_of% @Kd.R_types := @Kd.R_types
theorem zE : type_of% @blk_drewN := @blk_drewN
theorem zF : type_of% @blk_drew := @blk_drew
theorem zG : type_of% @blk_alloc := @blk_alloc
theorem zH : type_of% @pw_below_drewN := @pw_below_drewN
theorem zI : type_of% @below_alloc := @below_alloc
theorem zJ : type_of% @below_drew1 := @below_drew1
theorem zK : type_of% @blk_frozen := @blk_frozen
theorem zL : type_of% @blk_cell := @blk_cell
theorem zM : type_of% @blk_put := @blk_put
theorem zN : type_of% @blk_far := @blk_far
theorem zO : type_of% @blk_grown := @blk_grown
theorem zP : type_of% @below_set := @below_set
theorem zQ : type_of% @below_size := @below_size
end q_switchbacklaw18_Copy
open q_switchbacklaw18_Copy

/-! ### switchbacklaw18_Copy: function 15 -/
def switchbacklaw18_Copy.f (l0_0 : List Int) (l0_1 : List Int) (l0_2 : List Int) (a0_3 : Int) : Option (List Int × List Int × List Int × Int) := if ([] : List Int).length + l0_0.length < 35184372088832 then (if ([] : List Int).length + l0_1.length < 17592186044416 then (if ([] : List Int).length + l0_2.length < 35184372088832 then (some ((([] : List Int) ++ l0_0), (([] : List Int) ++ l0_1), (([] : List Int) ++ l0_2), a0_3)) else (none)) else (none)) else (none)
set_option maxHeartbeats 8000000 in
set_option maxRecDepth 100000 in
theorem switchbacklaw18_Copy.calls (A0_0 : Option Addr) (c0_0 : Nat) (l0_0 : List Int) (A0_1 : Option Addr) (c0_1 : Nat) (l0_1 : List Int) (A0_2 : Option Addr) (c0_2 : Nat) (l0_2 : List Int) (a0_3 : Int) (r1 : List Int) (r2 : List Int) (r3 : List Int) (r4 : Int) (w : World) (hr0_0 : Kd.C (Kd.int .u32) w A0_0 l0_0.length l0_0) (hc0_0 : l0_0.length ≤ c0_0) (hr0_1 : Kd.C (Kd.int .i64) w A0_1 l0_1.length l0_1) (hc0_1 : l0_1.length ≤ c0_1) (hr0_2 : Kd.C (Kd.int .u32) w A0_2 l0_2.length l0_2) (hc0_2 : l0_2.length ≤ c0_2) (h : switchbacklaw18_Copy.f l0_0 l0_1 l0_2 a0_3 = some (r1, r2, r3, r4)) :
    Calls Tryz.prog 15 #[.agg #[.slice A0_0 l0_0.length c0_0, .slice A0_1 l0_1.length c0_1, .slice A0_2 l0_2.length c0_2, .int .i64 a0_3]] w fun e w' => ∃ v0_ v1_ v2_ : Value, e = .returned (.agg #[v0_, v1_, v2_, .int .i64 r4]) ∧ Kd.R (Kd.int .u32) 47 w' w.heap.size (fun k_ => some k_ ≠ (v2_ : Value).ownBlock) v0_ r1 ∧ Kd.R (Kd.int .i64) 3 w' w.heap.size (fun _ => True) v1_ r2 ∧ Kd.R (Kd.int .u32) 47 w' w.heap.size (fun k_ => some k_ ≠ (v0_ : Value).ownBlock) v2_ r3 ∧ Below w.heap.size w w' := by
 have hu37 := Tryz.underlying37
 have HR0_0 := uZ hr0_0
 have HC0_0 := uZ hc0_0
 clear hr0_0 hc0_0
 have HR0_1 := uZ hr0_1
 have HC0_1 := uZ hc0_1
 clear hr0_1 hc0_1
 have HR0_2 := uZ hr0_2
 have HC0_2 := uZ hc0_2
 clear hr0_2 hc0_2
 have HB := uZ (Below.refl w.heap.size w)
 have H : (if ([] : List Int).length + l0_0.length < 35184372088832 then (if ([] : List Int).length + l0_1.length < 17592186044416 then (if ([] : List Int).length + l0_2.length < 35184372088832 then (some ((([] : List Int) ++ l0_0), (([] : List Int) ++ l0_1), (([] : List Int) ++ l0_2), a0_3)) else (none)) else (none)) else (none)) = some (r1, r2, r3, r4) := h
 clear h
 by_cases c2 : ([] : List Int).length + l0_0.length < 35184372088832
 ·rw [if_pos c2] at H
  have LMc2 := uZ c2
  clear c2
  obtain ⟨aa, hy176⟩ : ∃ y_ : List Int, y_ = (([] : List Int) ++ l0_0) := ⟨_, rfl⟩
  replace H : (if ([] : List Int).length + l0_1.length < 17592186044416 then (if ([] : List Int).length + l0_2.length < 35184372088832 then (some (aa, (([] : List Int) ++ l0_1), (([] : List Int) ++ l0_2), a0_3)) else (none)) else (none)) = some (r1, r2, r3, r4) := by first | (rw [hy176]; with_reducible exact H) | (have H2_ := (Option.bind_some _ _).symm.trans H; rw [hy176]; with_reducible exact H2_) | (have H2_ := (Option.bind_some _ _).symm.trans H; with_reducible exact H2_) | with_reducible exact H | (rw [hy176]; exact H) | exact H
  have Ny176 := uZ hy176
  clear hy176
  by_cases c3 : ([] : List Int).length + l0_1.length < 17592186044416
  ·rw [if_pos c3] at H
   have LMc3 := uZ c3
   clear c3
   obtain ⟨y179, hy179⟩ : ∃ y_ : List Int, y_ = (([] : List Int) ++ l0_1) := ⟨_, rfl⟩
   replace H : (if ([] : List Int).length + l0_2.length < 35184372088832 then (some (aa, y179, (([] : List Int) ++ l0_2), a0_3)) else (none)) = some (r1, r2, r3, r4) := by first | (rw [hy179]; with_reducible exact H) | (have H2_ := (Option.bind_some _ _).symm.trans H; rw [hy179]; with_reducible exact H2_) | (have H2_ := (Option.bind_some _ _).symm.trans H; with_reducible exact H2_) | with_reducible exact H | (rw [hy179]; exact H) | exact H
   have Ny179 := uZ hy179
   clear hy179
   by_cases c4 : ([] : List Int).length + l0_2.length < 35184372088832
   ·rw [if_pos c4] at H
    have LMc4 := uZ c4
    clear c4
    obtain ⟨y182, hy182⟩ : ∃ y_ : List Int, y_ = (([] : List Int) ++ l0_2) := ⟨_, rfl⟩
    replace H : (some (aa, y179, y182, a0_3)) = some (r1, r2, r3, r4) := by first | (rw [hy182]; with_reducible exact H) | (have H2_ := (Option.bind_some _ _).symm.trans H; rw [hy182]; with_reducible exact H2_) | (have H2_ := (Option.bind_some _ _).symm.trans H; with_reducible exact H2_) | with_reducible exact H | (rw [hy182]; exact H) | exact H
    have Ny182 := uZ hy182
    clear hy182
    simp only [Option.some.injEq, Prod.mk.injEq] at H
    obtain ⟨rfl, rfl, rfl, rfl⟩ := H
    go_enter Tryz.func15, Tryz.ntmps15
    go_wp2_with (first | ((with_reducible refine gate_dst (N := 1) rfl ?_); refine box_event ?hg (N := 1) ?hd (cs := #[.slice A0_0 l0_0.length c0_0, .slice A0_1 l0_1.length c0_1, .slice A0_2 l0_2.length c0_2, .int .i64 a0_3]) (t := 37) ?hr ?_; (case hd => rfl); (case hg => rfl); (case hr => first | (go_simp; done) | (go_simp; rfl)); intro a3 hg w5 hbox hb; have n0_ := uZ (below_step (by repeat (first | (with_reducible first | exact HB.out | apply zI | apply zH | apply zJ) | exact HB.out)) hb); have n1_ := uZ (hbox); have n2_ := uZ ((by rw [hg]; exact (zQ (by repeat (first | (with_reducible first | exact HB.out | apply zI | apply zH | apply zJ) | exact HB.out))) : w.heap.size ≤ a3)); have n3_ := uZ ((by rw [hg]; exact (zQ (by repeat (first | (with_reducible first | exact HB.out | apply zI | apply zH | apply zJ) | exact HB.out))) : w.heap.size ≤ a3)); clear HB; have HB := n0_; have a0 := n1_; have GW173 := n2_; have a8 := n3_; clear n0_ n1_ n2_ n3_; clear hb hbox hg) | ((with_reducible refine gate_dst (N := 2) rfl ?_); refine box_event ?hg (N := 2) ?hd (cs := #[.slice none 0 0, .slice none 0 0, .slice none 0 0, .int .i64 0]) (t := 37) ?hr ?_; (case hd => rfl); (case hg => rfl); (case hr => first | (go_simp; done) | (go_simp; rfl)); intro a4 hg w6 hbox hb; have n0_ := uZ (blk_below (g := a3) (o := .cells #[.slice A0_0 l0_0.length c0_0, .slice A0_1 l0_1.length c0_1, .slice A0_2 l0_2.length c0_2, .int .i64 a0_3] 37 (0, 0)) (uK a0.out) hb); have n1_ := uZ (below_step (by repeat (first | (with_reducible first | exact HB.out | apply zI | apply zH | apply zJ | refine zP ?_ a8.out) | exact HB.out)) hb); have n2_ := uZ (hbox); have n3_ := uZ ((by rw [hg]; exact (zQ (by repeat (first | (with_reducible first | exact HB.out | apply zI | apply zH | apply zJ | refine zP ?_ a8.out) | exact HB.out))) : w.heap.size ≤ a4)); have n4_ := uZ ((by rw [hg]; exact (zQ (by repeat (first | (with_reducible first | exact HB.out | apply zI | apply zH | apply zJ | refine zP ?_ a8.out) | exact HB.out))) : w.heap.size ≤ a4)); have n5_ := uZ ((by rw [hg]; exact Nat.ne_of_lt (blk_lt (g := a3) (o := .cells #[.slice A0_0 l0_0.length c0_0, .slice A0_1 l0_1.length c0_1, .slice A0_2 l0_2.length c0_2, .int .i64 a0_3] 37 (0, 0)) (uK a0.out)) : a3 ≠ a4)); have n6_ := uZ ((by rw [hg]; exact Nat.ne_of_gt (blk_lt (g := a3) (o := .cells #[.slice A0_0 l0_0.length c0_0, .slice A0_1 l0_1.length c0_1, .slice A0_2 l0_2.length c0_2, .int .i64 a0_3] 37 (0, 0)) (uK a0.out)) : a4 ≠ a3)); clear a0; clear HB; have a0 := n0_; have HB := n1_; have a5 := n2_; have GW174 := n3_; have a9 := n4_; have NB173_174 := n5_; have NB174_173 := n6_; clear n0_ n1_ n2_ n3_ n4_ n5_ n6_; clear hb hbox hg; have hnb7 := NB173_174.out; have hnc7 := NB174_173.out; have hcz8_0 : w6.cell? ⟨a3, 0, none⟩ = some (.slice A0_0 l0_0.length c0_0) := (zL a0.out 0).trans rfl; have hcz8_1 : w6.cell? ⟨a3, 1, none⟩ = some (.slice A0_1 l0_1.length c0_1) := (zL a0.out 1).trans rfl; have hcz8_2 : w6.cell? ⟨a3, 2, none⟩ = some (.slice A0_2 l0_2.length c0_2) := (zL a0.out 2).trans rfl; have hcz8_3 : w6.cell? ⟨a3, 3, none⟩ = some (.int .i64 a0_3) := (zL a0.out 3).trans rfl; have hfz8_0 := zK a0.out 0; have hfz8_1 := zK a0.out 1; have hfz8_2 := zK a0.out 2; have hfz8_3 := zK a0.out 3) | ((with_reducible refine gate_dst (N := 3) rfl ?_); refine box_event ?hg (N := 3) ?hd (cs := #[.slice none 0 0, .slice none 0 0, .slice none 0 0, .int .i64 0]) (t := 37) ?hr ?_; (case hd => rfl); (case hg => rfl); (case hr => first | (go_simp; done) | (go_simp; rfl)); intro a2 hg w9 hbox hb; have n0_ := uZ (blk_below (g := a3) (o := .cells #[.slice A0_0 l0_0.length c0_0, .slice A0_1 l0_1.length c0_1, .slice A0_2 l0_2.length c0_2, .int .i64 a0_3] 37 (0, 0)) (uK a0.out) hb); have n1_ := uZ (blk_below (g := a4) (o := .cells #[.slice none 0 0, .slice none 0 0, .slice none 0 0, .int .i64 0] 37 (0, 0)) (uK a5.out) hb); have n2_ := uZ (below_step (by repeat (first | (with_reducible first | exact HB.out | apply zI | apply zH | apply zJ | refine zP ?_ a8.out | refine zP ?_ a9.out) | exact HB.out)) hb); have n3_ := uZ (hbox); have n4_ := uZ ((by rw [hg]; exact (zQ (by repeat (first | (with_reducible first | exact HB.out | apply zI | apply zH | apply zJ | refine zP ?_ a8.out | refine zP ?_ a9.out) | exact HB.out))) : w.heap.size ≤ a2)); have n5_ := uZ ((by rw [hg]; exact (zQ (by repeat (first | (with_reducible first | exact HB.out | apply zI | apply zH | apply zJ | refine zP ?_ a8.out | refine zP ?_ a9.out) | exact HB.out))) : w.heap.size ≤ a2)); have n6_ := uZ ((by rw [hg]; exact Nat.ne_of_lt (blk_lt (g := a3) (o := .cells #[.slice A0_0 l0_0.length c0_0, .slice A0_1 l0_1.length c0_1, .slice A0_2 l0_2.length c0_2, .int .i64 a0_3] 37 (0, 0)) (uK a0.out)) : a3 ≠ a2)); have n7_ := uZ ((by rw [hg]; exact Nat.ne_of_gt (blk_lt (g := a3) (o := .cells #[.slice A0_0 l0_0.length c0_0, .slice A0_1 l0_1.length c0_1, .slice A0_2 l0_2.length c0_2, .int .i64 a0_3] 37 (0, 0)) (uK a0.out)) : a2 ≠ a3)); have n8_ := uZ ((by rw [hg]; exact Nat.ne_of_lt (blk_lt (g := a4) (o := .cells #[.slice none 0 0, .slice none 0 0, .slice none 0 0, .int .i64 0] 37 (0, 0)) (uK a5.out)) : a4 ≠ a2)); have n9_ := uZ ((by rw [hg]; exact Nat.ne_of_gt (blk_lt (g := a4) (o := .cells #[.slice none 0 0, .slice none 0 0, .slice none 0 0, .int .i64 0] 37 (0, 0)) (uK a5.out)) : a2 ≠ a4)); clear a0; clear a5; clear HB; have a0 := n0_; have a5 := n1_; have HB := n2_; have a1 := n3_; have GW175 := n4_; have ab := n5_; have a7 := n6_; have NB175_173 := n7_; have a6 := n8_; have NB175_174 := n9_; clear n0_ n1_ n2_ n3_ n4_ n5_ n6_ n7_ n8_ n9_; clear hb hbox hg; have hnb10 := NB175_173.out; have hnc10 := a7.out; have hnb11 := NB175_174.out; have hnc11 := a6.out; have hcz12_0 : w9.cell? ⟨a2, 0, none⟩ = some (.slice none 0 0) := (zL a1.out 0).trans rfl; have hcz12_1 : w9.cell? ⟨a2, 1, none⟩ = some (.slice none 0 0) := (zL a1.out 1).trans rfl; have hcz12_2 : w9.cell? ⟨a2, 2, none⟩ = some (.slice none 0 0) := (zL a1.out 2).trans rfl; have hcz12_3 : w9.cell? ⟨a2, 3, none⟩ = some (.int .i64 0) := (zL a1.out 3).trans rfl; have hfz12_0 := zK a1.out 0; have hfz12_1 := zK a1.out 1; have hfz12_2 := zK a1.out 2; have hfz12_3 := zK a1.out 3; have hcz13_0 : w9.cell? ⟨a3, 0, none⟩ = some (.slice A0_0 l0_0.length c0_0) := (zL a0.out 0).trans rfl; have hcz13_1 : w9.cell? ⟨a3, 1, none⟩ = some (.slice A0_1 l0_1.length c0_1) := (zL a0.out 1).trans rfl; have hcz13_2 : w9.cell? ⟨a3, 2, none⟩ = some (.slice A0_2 l0_2.length c0_2) := (zL a0.out 2).trans rfl; have hcz13_3 : w9.cell? ⟨a3, 3, none⟩ = some (.int .i64 a0_3) := (zL a0.out 3).trans rfl; have hfz13_0 := zK a0.out 0; have hfz13_1 := zK a0.out 1; have hfz13_2 := zK a0.out 2; have hfz13_3 := zK a0.out 3) | ((with_reducible refine gate_builtin (b := .append) (xs := #[.tmp 8, .tmp 10]) rfl ?_); at_builtin; refine Kd.R_append_rows (Kd.int .u32) (w0 := w) w.heap.size rfl (.tmp 8) (.tmp 10) 34 47 (.int .u32 0) 4 rfl Tryz.underlying34 info47 rfl (by decide) (by omega) (.slice none 0 0) ([] : List Int) l0_0 _ _ _ (fun _ => True) (fun _ => False) rfl rfl ?aO ?aR (fun _ _ h => h) (fun _ h => h.elim) ?aF ?aB ?aS ?aL ?_; (case aR => exact Kd.C_below HR0_0.out (by repeat (first | (with_reducible first | exact HB.out | apply zI | apply zH | apply zJ | refine zP ?_ a8.out | refine zP ?_ a9.out | refine zP ?_ ab.out) | exact HB.out))); (case aB => exact (by repeat (first | (with_reducible first | exact HB.out | apply zI | apply zH | apply zJ | refine zP ?_ a8.out | refine zP ?_ a9.out | refine zP ?_ ab.out) | exact HB.out))); (case aF => exact (fun _ _ => trivial)); (case aO => exact ((Kd.R_nil _ _ _ _ (fun _ => True)))); (case aS => exact (zQ (by repeat (first | (with_reducible first | exact HB.out | apply zI | apply zH | apply zJ | refine zP ?_ a8.out | refine zP ?_ a9.out | refine zP ?_ ab.out) | exact HB.out)))); (case aL => have := LMc2.out; omega); intro v177 w14 ho hb hg hat; rw [← Ny176.out] at ho; have n0_ := uZ (zO (g := a3) (o := .cells #[.slice A0_0 l0_0.length c0_0, .slice A0_1 l0_1.length c0_1, .slice A0_2 l0_2.length c0_2, .int .i64 a0_3] 37 (0, 0)) (by (with_reducible repeat (first | apply zE | apply zF | apply zG)); refine zN ?_ a7.out _; (with_reducible repeat (first | apply zE | apply zF | apply zG)); refine zN ?_ a7.out _; (with_reducible repeat (first | apply zE | apply zF | apply zG)); refine zN ?_ a7.out _; (with_reducible repeat (first | apply zE | apply zF | apply zG)); refine zN ?_ a7.out _; (with_reducible repeat (first | apply zE | apply zF | apply zG)); exact a0.out) hg (by simp [Value.ownBlock])); have n1_ := uZ (zO (g := a4) (o := .cells #[.slice none 0 0, .slice none 0 0, .slice none 0 0, .int .i64 0] 37 (0, 0)) (by (with_reducible repeat (first | apply zE | apply zF | apply zG)); refine zN ?_ a6.out _; (with_reducible repeat (first | apply zE | apply zF | apply zG)); refine zN ?_ a6.out _; (with_reducible repeat (first | apply zE | apply zF | apply zG)); refine zN ?_ a6.out _; (with_reducible repeat (first | apply zE | apply zF | apply zG)); refine zN ?_ a6.out _; (with_reducible repeat (first | apply zE | apply zF | apply zG)); exact a5.out) hg (by simp [Value.ownBlock])); have n2_ := uZ (zO (g := a2) (o := .cells #[.slice none 0 0, .slice none 0 0, .slice none 0 0, .int .i64 a0_3] 37 (0, 0)) (by (with_reducible repeat (first | apply zE | apply zF | apply zG)); refine zM (cs := #[.slice none 0 0, .slice none 0 0, .slice none 0 0, .int .i64 0]) ?_ 3 _ rfl; (with_reducible repeat (first | apply zE | apply zF | apply zG)); refine zM (cs := #[.slice none 0 0, .slice none 0 0, .slice none 0 0, .int .i64 0]) ?_ 2 _ rfl; (with_reducible repeat (first | apply zE | apply zF | apply zG)); refine zM (cs := #[.slice none 0 0, .slice none 0 0, .slice none 0 0, .int .i64 0]) ?_ 1 _ rfl; (with_reducible repeat (first | apply zE | apply zF | apply zG)); refine zM (cs := #[.slice none 0 0, .slice none 0 0, .slice none 0 0, .int .i64 0]) ?_ 0 _ rfl; (with_reducible repeat (first | apply zE | apply zF | apply zG)); exact a1.out) hg (by simp [Value.ownBlock])); have n3_ := uZ (hb); have n4_ := uZ (ho); clear a0; clear a5; clear a1; clear HB; have a0 := n0_; have a5 := n1_; have a1 := n2_; have HB := n3_; have ae := n4_; clear n0_ n1_ n2_ n3_ n4_; clear ho hb hg hat; obtain ⟨ac, ad, eo15⟩ := Kd.R_slice ae.out; subst eo15; have hcz16_0 : w14.cell? ⟨a2, 0, none⟩ = some (.slice none 0 0) := (zL a1.out 0).trans rfl; have hcz16_1 : w14.cell? ⟨a2, 1, none⟩ = some (.slice none 0 0) := (zL a1.out 1).trans rfl; have hcz16_2 : w14.cell? ⟨a2, 2, none⟩ = some (.slice none 0 0) := (zL a1.out 2).trans rfl; have hcz16_3 : w14.cell? ⟨a2, 3, none⟩ = some (.int .i64 a0_3) := (zL a1.out 3).trans rfl; have hfz16_0 := zK a1.out 0; have hfz16_1 := zK a1.out 1; have hfz16_2 := zK a1.out 2; have hfz16_3 := zK a1.out 3; have hcz17_0 : w14.cell? ⟨a3, 0, none⟩ = some (.slice A0_0 l0_0.length c0_0) := (zL a0.out 0).trans rfl; have hcz17_1 : w14.cell? ⟨a3, 1, none⟩ = some (.slice A0_1 l0_1.length c0_1) := (zL a0.out 1).trans rfl; have hcz17_2 : w14.cell? ⟨a3, 2, none⟩ = some (.slice A0_2 l0_2.length c0_2) := (zL a0.out 2).trans rfl; have hcz17_3 : w14.cell? ⟨a3, 3, none⟩ = some (.int .i64 a0_3) := (zL a0.out 3).trans rfl; have hfz17_0 := zK a0.out 0; have hfz17_1 := zK a0.out 1; have hfz17_2 := zK a0.out 2; have hfz17_3 := zK a0.out 3) | ((with_reducible refine gate_builtin (b := .append) (xs := #[.tmp 14, .tmp 16]) rfl ?_); at_builtin; refine Kd.R_append_rows (Kd.int .i64) (w0 := w) w.heap.size rfl (.tmp 14) (.tmp 16) 35 3 (.int .i64 0) 8 rfl Tryz.underlying35 info3 rfl (by decide) (by omega) (.slice none 0 0) ([] : List Int) l0_1 _ _ _ (fun _ => True) (fun _ => False) rfl rfl ?aO ?aR (fun _ _ h => h) (fun _ h => h.elim) ?aF ?aB ?aS ?aL ?_; (case aR => exact Kd.C_below HR0_1.out (by repeat (first | (with_reducible first | exact HB.out | apply zI | apply zH | apply zJ | refine zP ?_ a8.out | refine zP ?_ a9.out | refine zP ?_ ab.out) | exact HB.out))); (case aB => exact (by repeat (first | (with_reducible first | exact HB.out | apply zI | apply zH | apply zJ | refine zP ?_ a8.out | refine zP ?_ a9.out | refine zP ?_ ab.out) | exact HB.out))); (case aF => exact (fun _ _ => trivial)); (case aO => exact ((Kd.R_nil _ _ _ _ (fun _ => True)))); (case aS => exact (zQ (by repeat (first | (with_reducible first | exact HB.out | apply zI | apply zH | apply zJ | refine zP ?_ a8.out | refine zP ?_ a9.out | refine zP ?_ ab.out) | exact HB.out)))); (case aL => have := LMc3.out; omega); intro v180 w18 ho hb hg hat; rw [← Ny179.out] at ho; have n0_ := uZ (zO (g := a3) (o := .cells #[.slice A0_0 l0_0.length c0_0, .slice A0_1 l0_1.length c0_1, .slice A0_2 l0_2.length c0_2, .int .i64 a0_3] 37 (0, 0)) (by (with_reducible repeat (first | apply zE | apply zF | apply zG)); refine zN ?_ a7.out _; (with_reducible repeat (first | apply zE | apply zF | apply zG)); exact a0.out) hg (by simp [Value.ownBlock])); have n1_ := uZ (zO (g := a4) (o := .cells #[.slice none 0 0, .slice none 0 0, .slice none 0 0, .int .i64 0] 37 (0, 0)) (by (with_reducible repeat (first | apply zE | apply zF | apply zG)); refine zN ?_ a6.out _; (with_reducible repeat (first | apply zE | apply zF | apply zG)); exact a5.out) hg (by simp [Value.ownBlock])); have n2_ := uZ (zO (g := a2) (o := .cells #[.slice ac aa.length ad, .slice none 0 0, .slice none 0 0, .int .i64 a0_3] 37 (0, 0)) (by (with_reducible repeat (first | apply zE | apply zF | apply zG)); refine zM (cs := #[.slice none 0 0, .slice none 0 0, .slice none 0 0, .int .i64 a0_3]) ?_ 0 _ rfl; (with_reducible repeat (first | apply zE | apply zF | apply zG)); exact a1.out) hg (by simp [Value.ownBlock])); have n3_ := uZ (Kd.R_grown (by (with_reducible repeat (first | apply zA | apply zB | apply Kd.R_drew)); exact (Kd.R_mono (zC (p := ⟨a2, 0, none⟩) (zD ae.out a1.out (by decide)) (fun _ hk => hk.2) (.slice ac aa.length ad)) (fun _ h_ => h_.1))) hg (fun _ _ => by simp [Value.ownBlock])); have n4_ := uZ (hb); have n5_ := uZ (ho); clear a0; clear a5; clear a1; clear ae; clear HB; have a0 := n0_; have a5 := n1_; have a1 := n2_; have ae := n3_; have HB := n4_; have HO181 := n5_; clear n0_ n1_ n2_ n3_ n4_ n5_; clear ho hb hg hat; obtain ⟨Ao19, co19, eo19⟩ := Kd.R_slice HO181.out; subst eo19; have hcz20_0 : w18.cell? ⟨a2, 0, none⟩ = some (.slice ac aa.length ad) := (zL a1.out 0).trans rfl; have hcz20_1 : w18.cell? ⟨a2, 1, none⟩ = some (.slice none 0 0) := (zL a1.out 1).trans rfl; have hcz20_2 : w18.cell? ⟨a2, 2, none⟩ = some (.slice none 0 0) := (zL a1.out 2).trans rfl; have hcz20_3 : w18.cell? ⟨a2, 3, none⟩ = some (.int .i64 a0_3) := (zL a1.out 3).trans rfl; have hfz20_0 := zK a1.out 0; have hfz20_1 := zK a1.out 1; have hfz20_2 := zK a1.out 2; have hfz20_3 := zK a1.out 3; have hcz21_0 : w18.cell? ⟨a3, 0, none⟩ = some (.slice A0_0 l0_0.length c0_0) := (zL a0.out 0).trans rfl; have hcz21_1 : w18.cell? ⟨a3, 1, none⟩ = some (.slice A0_1 l0_1.length c0_1) := (zL a0.out 1).trans rfl; have hcz21_2 : w18.cell? ⟨a3, 2, none⟩ = some (.slice A0_2 l0_2.length c0_2) := (zL a0.out 2).trans rfl; have hcz21_3 : w18.cell? ⟨a3, 3, none⟩ = some (.int .i64 a0_3) := (zL a0.out 3).trans rfl; have hfz21_0 := zK a0.out 0; have hfz21_1 := zK a0.out 1; have hfz21_2 := zK a0.out 2; have hfz21_3 := zK a0.out 3) | ((with_reducible refine gate_builtin (b := .append) (xs := #[.tmp 20, .tmp 22]) rfl ?_); at_builtin; refine Kd.R_append_rows (Kd.int .u32) (w0 := w) w.heap.size rfl (.tmp 20) (.tmp 22) 34 47 (.int .u32 0) 4 rfl Tryz.underlying34 info47 rfl (by decide) (by omega) (.slice none 0 0) ([] : List Int) l0_2 _ _ _ (fun k_ => some k_ ≠ (.slice ac aa.length ad : Value).ownBlock) (fun _ => False) rfl rfl ?aO ?aR (fun _ _ h => h) (fun _ h => h.elim) ?aF ?aB ?aS ?aL ?_; (case aR => exact Kd.C_below HR0_2.out (by repeat (first | (with_reducible first | exact HB.out | apply zI | apply zH | apply zJ | refine zP ?_ a8.out | refine zP ?_ a9.out | refine zP ?_ ab.out) | exact HB.out))); (case aB => exact (by repeat (first | (with_reducible first | exact HB.out | apply zI | apply zH | apply zJ | refine zP ?_ a8.out | refine zP ?_ a9.out | refine zP ?_ ab.out) | exact HB.out))); (case aF => exact (fun k_ hk => Kd.fresh' (Kd.R_lt (by (with_reducible repeat (first | apply zA | apply zB | apply Kd.R_drew)); exact (Kd.R_mono (zC (p := ⟨a2, 1, none⟩) (zD ae.out a1.out (by decide)) (fun _ hk => hk.2) (.slice Ao19 y179.length co19)) (fun _ h_ => h_.1)))) k_ hk)); (case aO => exact ((Kd.R_nil _ _ _ _ (fun k_ => some k_ ≠ (.slice ac aa.length ad : Value).ownBlock)))); (case aS => exact (zQ (by repeat (first | (with_reducible first | exact HB.out | apply zI | apply zH | apply zJ | refine zP ?_ a8.out | refine zP ?_ a9.out | refine zP ?_ ab.out) | exact HB.out)))); (case aL => have := LMc4.out; omega); intro v183 w22 ho hb hg hat; rw [← Ny182.out] at ho; have n0_ := uZ (zO (g := a3) (o := .cells #[.slice A0_0 l0_0.length c0_0, .slice A0_1 l0_1.length c0_1, .slice A0_2 l0_2.length c0_2, .int .i64 a0_3] 37 (0, 0)) (by (with_reducible repeat (first | apply zE | apply zF | apply zG)); refine zN ?_ a7.out _; (with_reducible repeat (first | apply zE | apply zF | apply zG)); exact a0.out) hg (by simp [Value.ownBlock])); have n1_ := uZ (zO (g := a4) (o := .cells #[.slice none 0 0, .slice none 0 0, .slice none 0 0, .int .i64 0] 37 (0, 0)) (by (with_reducible repeat (first | apply zE | apply zF | apply zG)); refine zN ?_ a6.out _; (with_reducible repeat (first | apply zE | apply zF | apply zG)); exact a5.out) hg (by simp [Value.ownBlock])); have n2_ := uZ (zO (g := a2) (o := .cells #[.slice ac aa.length ad, .slice Ao19 y179.length co19, .slice none 0 0, .int .i64 a0_3] 37 (0, 0)) (by (with_reducible repeat (first | apply zE | apply zF | apply zG)); refine zM (cs := #[.slice ac aa.length ad, .slice none 0 0, .slice none 0 0, .int .i64 a0_3]) ?_ 1 _ rfl; (with_reducible repeat (first | apply zE | apply zF | apply zG)); exact a1.out) hg (by simp [Value.ownBlock])); have n3_ := uZ (Kd.R_after (Kd.R_apart_nil (by (with_reducible repeat (first | apply zA | apply zB | apply Kd.R_drew)); exact (Kd.R_mono (zC (p := ⟨a2, 1, none⟩) (zD ae.out a1.out (by decide)) (fun _ hk => hk.2) (.slice Ao19 y179.length co19)) (fun _ h_ => h_.1)))) hg hat); have n4_ := uZ (Kd.R_grown (by (with_reducible repeat (first | apply zA | apply zB | apply Kd.R_drew)); exact (Kd.R_mono (zC (p := ⟨a2, 1, none⟩) (zD HO181.out a1.out (by decide)) (fun _ hk => hk.2) (.slice Ao19 y179.length co19)) (fun _ h_ => h_.1))) hg (fun _ _ => by simp [Value.ownBlock])); have n5_ := uZ (hb); have n6_ := uZ (ho); clear a0; clear a5; clear a1; clear ae; clear HO181; clear HB; have a0 := n0_; have a5 := n1_; have a1 := n2_; have ae := n3_; have HO181 := n4_; have HB := n5_; have HO184 := n6_; clear n0_ n1_ n2_ n3_ n4_ n5_ n6_; clear ho hb hg hat; obtain ⟨Ao23, co23, eo23⟩ := Kd.R_slice HO184.out; subst eo23; have hcz24_0 : w22.cell? ⟨a2, 0, none⟩ = some (.slice ac aa.length ad) := (zL a1.out 0).trans rfl; have hcz24_1 : w22.cell? ⟨a2, 1, none⟩ = some (.slice Ao19 y179.length co19) := (zL a1.out 1).trans rfl; have hcz24_2 : w22.cell? ⟨a2, 2, none⟩ = some (.slice none 0 0) := (zL a1.out 2).trans rfl; have hcz24_3 : w22.cell? ⟨a2, 3, none⟩ = some (.int .i64 a0_3) := (zL a1.out 3).trans rfl; have hfz24_0 := zK a1.out 0; have hfz24_1 := zK a1.out 1; have hfz24_2 := zK a1.out 2; have hfz24_3 := zK a1.out 3; have hcz25_0 : w22.cell? ⟨a4, 0, none⟩ = some (.slice none 0 0) := (zL a5.out 0).trans rfl; have hcz25_1 : w22.cell? ⟨a4, 1, none⟩ = some (.slice none 0 0) := (zL a5.out 1).trans rfl; have hcz25_2 : w22.cell? ⟨a4, 2, none⟩ = some (.slice none 0 0) := (zL a5.out 2).trans rfl; have hcz25_3 : w22.cell? ⟨a4, 3, none⟩ = some (.int .i64 0) := (zL a5.out 3).trans rfl; have hfz25_0 := zK a5.out 0; have hfz25_1 := zK a5.out 1; have hfz25_2 := zK a5.out 2; have hfz25_3 := zK a5.out 3))
    refine bodyPost_ret (results_cell_row rfl _ _ a4 37 #[.slice ac aa.length ad, .slice Ao19 y179.length co19, .slice Ao23 y182.length co23, .int .i64 a0_3] (0, 0) _ rfl (by (with_reducible repeat (first | apply zE | apply zF | apply zG)); refine zM (cs := #[.slice ac aa.length ad, .slice Ao19 y179.length co19, .slice Ao23 y182.length co23, .int .i64 0]) ?_ 3 _ rfl; (with_reducible repeat (first | apply zE | apply zF | apply zG)); refine zM (cs := #[.slice ac aa.length ad, .slice Ao19 y179.length co19, .slice none 0 0, .int .i64 0]) ?_ 2 _ rfl; (with_reducible repeat (first | apply zE | apply zF | apply zG)); refine zM (cs := #[.slice ac aa.length ad, .slice none 0 0, .slice none 0 0, .int .i64 0]) ?_ 1 _ rfl; (with_reducible repeat (first | apply zE | apply zF | apply zG)); refine zM (cs := #[.slice none 0 0, .slice none 0 0, .slice none 0 0, .int .i64 0]) ?_ 0 _ rfl; (with_reducible repeat (first | apply zE | apply zF | apply zG)); refine zN ?_ a6.out _; (with_reducible repeat (first | apply zE | apply zF | apply zG)); exact a5.out) Tryz.underlying37 rfl (by kernel_rfl)) rfl ?_
    exact ⟨_, _, _, by first | rfl | (simp [errW_none, errW_some] <;> rfl) | (simp [*, errW_none, errW_some] <;> rfl), by (with_reducible repeat (first | apply zA | apply zB | apply Kd.R_drew)); exact Kd.R_mono (zC (p := ⟨a4, 3, none⟩) (zC (p := ⟨a4, 2, none⟩) (zC (p := ⟨a4, 1, none⟩) (zC (p := ⟨a4, 0, none⟩) (zC (p := ⟨a2, 2, none⟩) (zD (zD ae.out a1.out (by decide)) a5.out (by decide)) (fun _ hk => hk.1.2) (.slice Ao23 y182.length co23)) (fun _ hk => hk.2) (.slice ac aa.length ad)) (fun _ hk => hk.2) (.slice Ao19 y179.length co19)) (fun _ hk => hk.2) (.slice Ao23 y182.length co23)) (fun _ hk => hk.2) (.int .i64 a0_3)) (fun _ hk => hk.1.1.2), by (with_reducible repeat (first | apply zA | apply zB | apply Kd.R_drew)); exact Kd.R_mono (zC (p := ⟨a4, 3, none⟩) (zC (p := ⟨a4, 2, none⟩) (zC (p := ⟨a4, 1, none⟩) (zC (p := ⟨a4, 0, none⟩) (zC (p := ⟨a2, 2, none⟩) (zD (zD HO181.out a1.out (by decide)) a5.out (by decide)) (fun _ hk => hk.1.2) (.slice Ao23 y182.length co23)) (fun _ hk => hk.2) (.slice ac aa.length ad)) (fun _ hk => hk.2) (.slice Ao19 y179.length co19)) (fun _ hk => hk.2) (.slice Ao23 y182.length co23)) (fun _ hk => hk.2) (.int .i64 a0_3)) (fun _ hk => trivial), by (with_reducible repeat (first | apply zA | apply zB | apply Kd.R_drew)); exact Kd.R_mono (zC (p := ⟨a4, 3, none⟩) (zC (p := ⟨a4, 2, none⟩) (zC (p := ⟨a4, 1, none⟩) (zC (p := ⟨a4, 0, none⟩) (zC (p := ⟨a2, 2, none⟩) (zD (zD HO184.out a1.out (by decide)) a5.out (by decide)) (fun _ hk => hk.1.2) (.slice Ao23 y182.length co23)) (fun _ hk => hk.2) (.slice ac aa.length ad)) (fun _ hk => hk.2) (.slice Ao19 y179.length co19)) (fun _ hk => hk.2) (.slice Ao23 y182.length co23)) (fun _ hk => hk.2) (.int .i64 a0_3)) (fun _ hk => hk.1.1), by repeat (first | (with_reducible first | exact HB.out | apply zI | apply zH | apply zJ | refine zP ?_ a8.out | refine zP ?_ a9.out | refine zP ?_ ab.out) | exact HB.out)⟩
   rw [if_neg c4] at H
   exact absurd H (by simp)
  rw [if_neg c3] at H
  exact absurd H (by simp)
 rw [if_neg c2] at H
 exact absurd H (by simp)

end Go.Proofs.YtlhgfhmdhmgmpaaGreatDoor.PZ3

set_option linter.unusedVariables false
namespace Go.Proofs.YtlhgfhmdhmgmpaaGreatDoor.PZ3
open Go.RowKit Go.Proofs.YtlhgfhmdhmgmpaaGreatDoorW.PrintWords Go.Proofs.YtlhgfhmdhmgmpaaGreatDoorW.PrintLast Go.Proofs.YtlhgfhmdhmgmpaaGreatDoorW.PrintMore

/-! ### list_Show: function 16 -/
def u32B (x : Int) : Bool := decide (0 ≤ x) && decide (x < 4294967296)

def list_Show.f (l0_0 l0_1 l0_2 : List Int) (a0_3 : Int) : Option ByteArray :=
  if l0_0.all u32B = true ∧ l0_2.all u32B = true ∧ -9223372036854775808 ≤ a0_3 ∧ a0_3 ≤ 9223372036854775807 ∧ l0_0.length ≤ 1100000 ∧ l0_1.length ≤ 1000000000 ∧ l0_2.length ≤ 1100000 then some ⟨(showP l0_0 l0_1 l0_2 a0_3).toArray⟩ else none

theorem list_Show.calls (A0_0 : Option Addr) (c0_0 : Nat) (l0_0 : List Int) (A0_1 : Option Addr) (c0_1 : Nat) (l0_1 : List Int) (A0_2 : Option Addr) (c0_2 : Nat) (l0_2 : List Int) (a0_3 : Int) (r : ByteArray) (w : World) (hr0_0 : Kd.C (Kd.int .u32) w A0_0 l0_0.length l0_0) (hc0_0 : l0_0.length ≤ c0_0) (hr0_1 : Kd.C (Kd.int .i64) w A0_1 l0_1.length l0_1) (hc0_1 : l0_1.length ≤ c0_1) (hr0_2 : Kd.C (Kd.int .u32) w A0_2 l0_2.length l0_2) (hc0_2 : l0_2.length ≤ c0_2) (hLaid_ : Aside0 (SLaid w)) (h : list_Show.f l0_0 l0_1 l0_2 a0_3 = some r) :
    Calls Tryz.prog 16 #[.agg #[.slice A0_0 l0_0.length c0_0, .slice A0_1 l0_1.length c0_1, .slice A0_2 l0_2.length c0_2, .int .i64 a0_3]] w fun e w' => e = .returned (.string r) ∧ Below w.heap.size w w' := by
  unfold list_Show.f at h
  split at h
  · rename_i hw
    obtain ⟨h1, h2, h3, h4, h5, h6, h7⟩ := hw
    simp only [Option.some.injEq] at h
    subst h
    have hb : ∀ (l : List Int), l.all u32B = true → ∀ x ∈ l, 0 ≤ x ∧ x < 4294967296 := fun l hl x hx => by
      have := List.all_eq_true.1 hl x hx
      unfold u32B at this
      simpa using this
    exact show_any A0_0 A0_1 A0_2 c0_0 c0_1 c0_2 l0_0 l0_1 l0_2 a0_3 w hLaid_.out hr0_0 hr0_1 hr0_2 (hb _ h1) (hb _ h2) ⟨h3, h4⟩ h5 h6 h7
  · cases h

end Go.Proofs.YtlhgfhmdhmgmpaaGreatDoor.PZ3

set_option linter.unusedVariables false
namespace Go.Proofs.YtlhgfhmdhmgmpaaGreatDoor.PZ3
open Go.RowKit Go.Proofs.YtlhgfhmdhmgmpaaGreatDoorW.PrintWords Go.Proofs.YtlhgfhmdhmgmpaaGreatDoorW.PrintLast Go.Proofs.YtlhgfhmdhmgmpaaGreatDoorW.PrintMore

/-! ### switchbackref22_Show: function 17 -/
def switchbackref22_Show.f (l0_0 l0_1 l0_2 : List Int) (a0_3 : Int) : Option ByteArray :=
  if l0_0.all inW = true ∧ l0_2.all inW = true ∧ -9223372036854775808 ≤ a0_3 ∧ a0_3 ≤ 9223372036854775807 ∧ l0_0.length ≤ 1100000 ∧ l0_1.length ≤ 1000000000 ∧ l0_2.length ≤ 1100000 then some ⟨(showP l0_0 l0_1 l0_2 a0_3).toArray⟩ else none

theorem switchbackref22_Show.calls (A0_0 : Option Addr) (c0_0 : Nat) (l0_0 : List Int) (A0_1 : Option Addr) (c0_1 : Nat) (l0_1 : List Int) (A0_2 : Option Addr) (c0_2 : Nat) (l0_2 : List Int) (a0_3 : Int) (r : ByteArray) (w : World) (hr0_0 : Kd.C (Kd.int .u32) w A0_0 l0_0.length l0_0) (hc0_0 : l0_0.length ≤ c0_0) (hr0_1 : Kd.C (Kd.int .i64) w A0_1 l0_1.length l0_1) (hc0_1 : l0_1.length ≤ c0_1) (hr0_2 : Kd.C (Kd.int .u32) w A0_2 l0_2.length l0_2) (hc0_2 : l0_2.length ≤ c0_2) (h : switchbackref22_Show.f l0_0 l0_1 l0_2 a0_3 = some r) :
    Calls Tryz.prog 17 #[.agg #[.slice A0_0 l0_0.length c0_0, .slice A0_1 l0_1.length c0_1, .slice A0_2 l0_2.length c0_2, .int .i64 a0_3]] w fun e w' => e = .returned (.string r) ∧ Below w.heap.size w w' := by
  unfold switchbackref22_Show.f at h
  split at h
  · rename_i hw
    obtain ⟨h1, h2, h3, h4, h5, h6, h7⟩ := hw
    simp only [Option.some.injEq] at h
    subst h
    exact showR_done A0_0 A0_1 A0_2 c0_0 c0_1 c0_2 l0_0 l0_1 l0_2 a0_3 w hr0_0 hr0_1 hr0_2 (inW_all h1) (inW_all h2) ⟨h3, h4⟩ h5 h6 h7
  · cases h

end Go.Proofs.YtlhgfhmdhmgmpaaGreatDoor.PZ3

-- Written by gp.py for this claim.
namespace Go.Proofs.YtlhgfhmdhmgmpaaGreatDoor.PZ3
open Go.RowKit Go.Proofs.YtlhgfhmdhmgmpaaGreatDoorW.PrintWords Go.Proofs.YtlhgfhmdhmgmpaaGreatDoorW.PrintLast Go.Proofs.YtlhgfhmdhmgmpaaGreatDoorW.PrintMore
attribute [local go_sem] max2_int min2_int max_two min_two max_three min_three max_four min_four   -- for this text's walks alone
set_option linter.unusedVariables false
set_option linter.unusedSimpArgs false

namespace q_switchbacklaw18_Same
theorem uZ {p : Prop} (h : p) : Aside0 p := ⟨h⟩
theorem uK {p q : Prop} (h : p) (g : p → q := by intro h; (with_reducible repeat (first | apply blk_drewN | apply blk_drew | apply blk_alloc)); exact h) : q := g h
theorem uB {p q : Prop} (h : p) (g : p → q := by intro h; repeat (first | (with_reducible first | exact h | apply below_alloc | apply pw_below_drewN | apply below_drew1) | exact h)) : q := g h
theorem uC {p q s : Prop} (h : p) (j : s) (g : p → s → q := by intro h j; repeat (first | (with_reducible first | exact h | apply below_alloc | apply pw_below_drewN | apply below_drew1 | refine below_set ?_ j) | exact h)) : q := g h j
theorem uD {p q s r : Prop} (h : p) (j : s) (k : r) (g : p → s → r → q := by intro h j k; repeat (first | (with_reducible first | exact h | apply below_alloc | apply pw_below_drewN | apply below_drew1 | refine below_set ?_ j | refine below_set ?_ k) | exact h)) : q := g h j k
theorem uA {p : Prop} [Decidable p] (h : decide p = true := by first | (with_reducible assumption) | assumption) : p := of_decide_eq_true h
theorem zA : type_of% @pw_below_drewN := @pw_below_drewN
theorem zB : type_of% @blk_frozen := @blk_frozen
theorem zC : type_of% @blk_cell := @blk_cell
theorem zD : type_of% @below_set := @below_set
theorem zE : type_of% @below_size := @below_size
theorem zF : type_of% @World.block_lt_of_cell? := @World.block_lt_of_cell?
end q_switchbacklaw18_Same
open q_switchbacklaw18_Same

/-! ### switchbacklaw18_Same: function 18 -/
mutual
def switchbacklaw18_Same.j0 : Nat → Bool → List Int → List Int → List Int → Int → List Int → List Int → List Int → Int → Option (Bool)
  | 0, _, _, _, _, _, _, _, _, _ => none
  | k + 1, x39, x228000, x228001, x228002, x228003, x229000, x229001, x229002, x229003 => if x39 = true then (some false) else (switchbacklaw18_Same.l0 k 0 x228000 x228001 x228002 x228003 x229000 x229001 x229002 x229003)
def switchbacklaw18_Same.l0 : Nat → Int → List Int → List Int → List Int → Int → List Int → List Int → List Int → Int → Option (Bool)
  | 0, _, _, _, _, _, _, _, _, _ => none
  | k + 1, x5, x228000, x228001, x228002, x228003, x229000, x229001, x229002, x229003 => if x5 < (x228000.length : Int) then (if 0 ≤ x5 then (if x5 < (x229000.length : Int) then (if (rd x228000 x5) = (rd x229000 x5) then (switchbacklaw18_Same.l0 k (wrap64 (x5 + 1)) x228000 x228001 x228002 x228003 x229000 x229001 x229002 x229003) else (some false)) else (none)) else (none)) else (switchbacklaw18_Same.l1 k 0 x228000 x228001 x228002 x228003 x229000 x229001 x229002 x229003)
def switchbacklaw18_Same.l1 : Nat → Int → List Int → List Int → List Int → Int → List Int → List Int → List Int → Int → Option (Bool)
  | 0, _, _, _, _, _, _, _, _, _ => none
  | k + 1, x6, x228000, x228001, x228002, x228003, x229000, x229001, x229002, x229003 => if x6 < (x228001.length : Int) then (if 0 ≤ x6 then (if x6 < (x229001.length : Int) then (if (rd x228001 x6) = (rd x229001 x6) then (switchbacklaw18_Same.l1 k (wrap64 (x6 + 1)) x228000 x228001 x228002 x228003 x229000 x229001 x229002 x229003) else (some false)) else (none)) else (none)) else (switchbacklaw18_Same.l2 k 0 x228000 x228001 x228002 x228003 x229000 x229001 x229002 x229003)
def switchbacklaw18_Same.l2 : Nat → Int → List Int → List Int → List Int → Int → List Int → List Int → List Int → Int → Option (Bool)
  | 0, _, _, _, _, _, _, _, _, _ => none
  | k + 1, x7, x228000, x228001, x228002, x228003, x229000, x229001, x229002, x229003 => if x7 < (x228002.length : Int) then (if 0 ≤ x7 then (if x7 < (x229002.length : Int) then (if (rd x228002 x7) = (rd x229002 x7) then (switchbacklaw18_Same.l2 k (wrap64 (x7 + 1)) x228000 x228001 x228002 x228003 x229000 x229001 x229002 x229003) else (some false)) else (none)) else (none)) else (some true)
end
def switchbacklaw18_Same.f (k : Nat) (l0_0 : List Int) (l0_1 : List Int) (l0_2 : List Int) (a0_3 : Int) (l1_0 : List Int) (l1_1 : List Int) (l1_2 : List Int) (a1_3 : Int) : Option (Bool) := if a0_3 = a1_3 then (if (l0_0.length : Int) = (l1_0.length : Int) then (if (l0_1.length : Int) = (l1_1.length : Int) then (switchbacklaw18_Same.j0 k ((l0_2.length : Int) != (l1_2.length : Int)) l0_0 l0_1 l0_2 a0_3 l1_0 l1_1 l1_2 a1_3) else (switchbacklaw18_Same.j0 k true l0_0 l0_1 l0_2 a0_3 l1_0 l1_1 l1_2 a1_3)) else (switchbacklaw18_Same.j0 k true l0_0 l0_1 l0_2 a0_3 l1_0 l1_1 l1_2 a1_3)) else (switchbacklaw18_Same.j0 k true l0_0 l0_1 l0_2 a0_3 l1_0 l1_1 l1_2 a1_3)
theorem switchbacklaw18_Same.mono_l : ∀ k, (∀ y0 y1 y2 y3 y4 y5 y6 y7 y8, LeO (switchbacklaw18_Same.j0 k y0 y1 y2 y3 y4 y5 y6 y7 y8) (switchbacklaw18_Same.j0 (k + 1) y0 y1 y2 y3 y4 y5 y6 y7 y8)) ∧ (∀ y0 y1 y2 y3 y4 y5 y6 y7 y8, LeO (switchbacklaw18_Same.l0 k y0 y1 y2 y3 y4 y5 y6 y7 y8) (switchbacklaw18_Same.l0 (k + 1) y0 y1 y2 y3 y4 y5 y6 y7 y8)) ∧ (∀ y0 y1 y2 y3 y4 y5 y6 y7 y8, LeO (switchbacklaw18_Same.l1 k y0 y1 y2 y3 y4 y5 y6 y7 y8) (switchbacklaw18_Same.l1 (k + 1) y0 y1 y2 y3 y4 y5 y6 y7 y8)) ∧ (∀ y0 y1 y2 y3 y4 y5 y6 y7 y8, LeO (switchbacklaw18_Same.l2 k y0 y1 y2 y3 y4 y5 y6 y7 y8) (switchbacklaw18_Same.l2 (k + 1) y0 y1 y2 y3 y4 y5 y6 y7 y8))
  | 0 => ⟨fun _ _ _ _ _ _ _ _ _ r h => by simp [switchbacklaw18_Same.j0] at h, fun _ _ _ _ _ _ _ _ _ r h => by simp [switchbacklaw18_Same.l0] at h, fun _ _ _ _ _ _ _ _ _ r h => by simp [switchbacklaw18_Same.l1] at h, fun _ _ _ _ _ _ _ _ _ r h => by simp [switchbacklaw18_Same.l2] at h⟩
  | k + 1 => by
    obtain ⟨ih0, ih1, ih2, ih3⟩ := switchbacklaw18_Same.mono_l k
    refine ⟨?_, ?_, ?_, ?_⟩
    · intro y0 y1 y2 y3 y4 y5 y6 y7 y8
      unfold switchbacklaw18_Same.j0
      repeat' first
      | (with_reducible exact ih0 _ _ _ _ _ _ _ _ _)
      | (with_reducible exact ih1 _ _ _ _ _ _ _ _ _)
      | (with_reducible exact ih2 _ _ _ _ _ _ _ _ _)
      | (with_reducible exact ih3 _ _ _ _ _ _ _ _ _)
      | (with_reducible exact LeO.refl _)
      | (with_reducible exact LeO.none _)
      | (with_reducible refine LeO.ite ?_ ?_)
      | (with_reducible refine LeO.bind ?_ (fun _ => ?_))
      | exact ih0 _ _ _ _ _ _ _ _ _
      | exact ih1 _ _ _ _ _ _ _ _ _
      | exact ih2 _ _ _ _ _ _ _ _ _
      | exact ih3 _ _ _ _ _ _ _ _ _
      | exact LeO.none _
      | refine LeO.ite ?_ ?_
      | refine LeO.bind ?_ (fun _ => ?_)
    · intro y0 y1 y2 y3 y4 y5 y6 y7 y8
      unfold switchbacklaw18_Same.l0
      repeat' first
      | (with_reducible exact ih0 _ _ _ _ _ _ _ _ _)
      | (with_reducible exact ih1 _ _ _ _ _ _ _ _ _)
      | (with_reducible exact ih2 _ _ _ _ _ _ _ _ _)
      | (with_reducible exact ih3 _ _ _ _ _ _ _ _ _)
      | (with_reducible exact LeO.refl _)
      | (with_reducible exact LeO.none _)
      | (with_reducible refine LeO.ite ?_ ?_)
      | (with_reducible refine LeO.bind ?_ (fun _ => ?_))
      | exact ih0 _ _ _ _ _ _ _ _ _
      | exact ih1 _ _ _ _ _ _ _ _ _
      | exact ih2 _ _ _ _ _ _ _ _ _
      | exact ih3 _ _ _ _ _ _ _ _ _
      | exact LeO.none _
      | refine LeO.ite ?_ ?_
      | refine LeO.bind ?_ (fun _ => ?_)
    · intro y0 y1 y2 y3 y4 y5 y6 y7 y8
      unfold switchbacklaw18_Same.l1
      repeat' first
      | (with_reducible exact ih0 _ _ _ _ _ _ _ _ _)
      | (with_reducible exact ih1 _ _ _ _ _ _ _ _ _)
      | (with_reducible exact ih2 _ _ _ _ _ _ _ _ _)
      | (with_reducible exact ih3 _ _ _ _ _ _ _ _ _)
      | (with_reducible exact LeO.refl _)
      | (with_reducible exact LeO.none _)
      | (with_reducible refine LeO.ite ?_ ?_)
      | (with_reducible refine LeO.bind ?_ (fun _ => ?_))
      | exact ih0 _ _ _ _ _ _ _ _ _
      | exact ih1 _ _ _ _ _ _ _ _ _
      | exact ih2 _ _ _ _ _ _ _ _ _
      | exact ih3 _ _ _ _ _ _ _ _ _
      | exact LeO.none _
      | refine LeO.ite ?_ ?_
      | refine LeO.bind ?_ (fun _ => ?_)
    · intro y0 y1 y2 y3 y4 y5 y6 y7 y8
      unfold switchbacklaw18_Same.l2
      repeat' first
      | (with_reducible exact ih0 _ _ _ _ _ _ _ _ _)
      | (with_reducible exact ih1 _ _ _ _ _ _ _ _ _)
      | (with_reducible exact ih2 _ _ _ _ _ _ _ _ _)
      | (with_reducible exact ih3 _ _ _ _ _ _ _ _ _)
      | (with_reducible exact LeO.refl _)
      | (with_reducible exact LeO.none _)
      | (with_reducible refine LeO.ite ?_ ?_)
      | (with_reducible refine LeO.bind ?_ (fun _ => ?_))
      | exact ih0 _ _ _ _ _ _ _ _ _
      | exact ih1 _ _ _ _ _ _ _ _ _
      | exact ih2 _ _ _ _ _ _ _ _ _
      | exact ih3 _ _ _ _ _ _ _ _ _
      | exact LeO.none _
      | refine LeO.ite ?_ ?_
      | refine LeO.bind ?_ (fun _ => ?_)
theorem switchbacklaw18_Same.mono : ∀ a0 a1 a2 a3 a4 a5 a6 a7 k, LeO (switchbacklaw18_Same.f k a0 a1 a2 a3 a4 a5 a6 a7) (switchbacklaw18_Same.f (k + 1) a0 a1 a2 a3 a4 a5 a6 a7) := by
  intro a0 a1 a2 a3 a4 a5 a6 a7 k
  obtain ⟨ih0, ih1, ih2, ih3⟩ := switchbacklaw18_Same.mono_l k
  unfold switchbacklaw18_Same.f
  repeat' first
      | (with_reducible exact ih0 _ _ _ _ _ _ _ _ _)
      | (with_reducible exact ih1 _ _ _ _ _ _ _ _ _)
      | (with_reducible exact ih2 _ _ _ _ _ _ _ _ _)
      | (with_reducible exact ih3 _ _ _ _ _ _ _ _ _)
      | (with_reducible exact LeO.refl _)
      | (with_reducible exact LeO.none _)
      | (with_reducible refine LeO.ite ?_ ?_)
      | (with_reducible refine LeO.bind ?_ (fun _ => ?_))
      | exact ih0 _ _ _ _ _ _ _ _ _
      | exact ih1 _ _ _ _ _ _ _ _ _
      | exact ih2 _ _ _ _ _ _ _ _ _
      | exact ih3 _ _ _ _ _ _ _ _ _
      | exact LeO.none _
      | refine LeO.ite ?_ ?_
      | refine LeO.bind ?_ (fun _ => ?_)
set_option maxHeartbeats 8000000 in
set_option maxRecDepth 100000 in
theorem switchbacklaw18_Same.calls (k : Nat) (A0_0 : Option Addr) (c0_0 : Nat) (l0_0 : List Int) (A0_1 : Option Addr) (c0_1 : Nat) (l0_1 : List Int) (A0_2 : Option Addr) (c0_2 : Nat) (l0_2 : List Int) (a0_3 : Int) (A1_0 : Option Addr) (c1_0 : Nat) (l1_0 : List Int) (A1_1 : Option Addr) (c1_1 : Nat) (l1_1 : List Int) (A1_2 : Option Addr) (c1_2 : Nat) (l1_2 : List Int) (a1_3 : Int) (r : Bool) (w : World) (hr0_0 : Kd.C (Kd.int .u32) w A0_0 l0_0.length l0_0) (hc0_0 : l0_0.length ≤ c0_0) (hr0_1 : Kd.C (Kd.int .i64) w A0_1 l0_1.length l0_1) (hc0_1 : l0_1.length ≤ c0_1) (hr0_2 : Kd.C (Kd.int .u32) w A0_2 l0_2.length l0_2) (hc0_2 : l0_2.length ≤ c0_2) (hr1_0 : Kd.C (Kd.int .u32) w A1_0 l1_0.length l1_0) (hc1_0 : l1_0.length ≤ c1_0) (hr1_1 : Kd.C (Kd.int .i64) w A1_1 l1_1.length l1_1) (hc1_1 : l1_1.length ≤ c1_1) (hr1_2 : Kd.C (Kd.int .u32) w A1_2 l1_2.length l1_2) (hc1_2 : l1_2.length ≤ c1_2) (h : switchbacklaw18_Same.f k l0_0 l0_1 l0_2 a0_3 l1_0 l1_1 l1_2 a1_3 = some r) :
    Calls Tryz.prog 18 #[.agg #[.slice A0_0 l0_0.length c0_0, .slice A0_1 l0_1.length c0_1, .slice A0_2 l0_2.length c0_2, .int .i64 a0_3], .agg #[.slice A1_0 l1_0.length c1_0, .slice A1_1 l1_1.length c1_1, .slice A1_2 l1_2.length c1_2, .int .i64 a1_3]] w fun e w' => e = .returned (.bool r) ∧ Below w.heap.size w w' := by
 have hu37 := Tryz.underlying37
 have HR0_0 := uZ hr0_0
 have HC0_0 := uZ hc0_0
 clear hr0_0 hc0_0
 have HR0_1 := uZ hr0_1
 have HC0_1 := uZ hc0_1
 clear hr0_1 hc0_1
 have HR0_2 := uZ hr0_2
 have HC0_2 := uZ hc0_2
 clear hr0_2 hc0_2
 have HR1_0 := uZ hr1_0
 have HC1_0 := uZ hc1_0
 clear hr1_0 hc1_0
 have HR1_1 := uZ hr1_1
 have HC1_1 := uZ hc1_1
 clear hr1_1 hc1_1
 have HR1_2 := uZ hr1_2
 have HC1_2 := uZ hc1_2
 clear hr1_2 hc1_2
 have HB := uZ (Below.refl w.heap.size w)
 have H : (if a0_3 = a1_3 then (if (l0_0.length : Int) = (l1_0.length : Int) then (if (l0_1.length : Int) = (l1_1.length : Int) then (switchbacklaw18_Same.j0 k ((l0_2.length : Int) != (l1_2.length : Int)) l0_0 l0_1 l0_2 a0_3 l1_0 l1_1 l1_2 a1_3) else (switchbacklaw18_Same.j0 k true l0_0 l0_1 l0_2 a0_3 l1_0 l1_1 l1_2 a1_3)) else (switchbacklaw18_Same.j0 k true l0_0 l0_1 l0_2 a0_3 l1_0 l1_1 l1_2 a1_3)) else (switchbacklaw18_Same.j0 k true l0_0 l0_1 l0_2 a0_3 l1_0 l1_1 l1_2 a1_3)) = some r := h
 clear h
 have HC3 := uZ H
 clear H
 go_enter Tryz.func18, Tryz.ntmps18
 go_upto_region 1 with (first | ((with_reducible refine gate_dst (N := 2) rfl ?_); (try (refine gate_guard (by rfl) ?_; dsimp only)); refine box_event ?hg (N := 2) ?hd (cs := #[.slice A0_0 l0_0.length c0_0, .slice A0_1 l0_1.length c0_1, .slice A0_2 l0_2.length c0_2, .int .i64 a0_3]) (t := 37) ?hr ?_; (case hd => rfl); (case hg => rfl); (case hr => first | (go_simp; done) | (go_simp; rfl)); intro aa hg w4 hbox hb; have n0_ := uZ (below_step (uB HB.out) hb); have n1_ := uZ (hbox); have n2_ := uZ ((by rw [hg]; exact (zE (uB HB.out)) : w.heap.size ≤ aa)); have n3_ := uZ ((by rw [hg]; exact (zE (uB HB.out)) : w.heap.size ≤ aa)); clear HB; have HB := n0_; have a8 := n1_; have GW227 := n2_; have ae := n3_; clear n0_ n1_ n2_ n3_; clear hb hbox hg) | ((with_reducible refine gate_dst (N := 3) rfl ?_); (try (refine gate_guard (by rfl) ?_; dsimp only)); refine box_event ?hg (N := 3) ?hd (cs := #[.slice A1_0 l1_0.length c1_0, .slice A1_1 l1_1.length c1_1, .slice A1_2 l1_2.length c1_2, .int .i64 a1_3]) (t := 37) ?hr ?_; (case hd => rfl); (case hg => rfl); (case hr => first | (go_simp; done) | (go_simp; rfl)); intro ab hg w5 hbox hb; have n0_ := uZ (blk_below (g := aa) (o := .cells #[.slice A0_0 l0_0.length c0_0, .slice A0_1 l0_1.length c0_1, .slice A0_2 l0_2.length c0_2, .int .i64 a0_3] 37 (0, 0)) (uK a8.out) hb); have n1_ := uZ (below_step (uC HB.out ae.out) hb); have n2_ := uZ (hbox); have n3_ := uZ ((by rw [hg]; exact (zE (uC HB.out ae.out)) : w.heap.size ≤ ab)); have n4_ := uZ ((by rw [hg]; exact (zE (uC HB.out ae.out)) : w.heap.size ≤ ab)); have n5_ := uZ ((by rw [hg]; exact Nat.ne_of_lt (blk_lt (g := aa) (o := .cells #[.slice A0_0 l0_0.length c0_0, .slice A0_1 l0_1.length c0_1, .slice A0_2 l0_2.length c0_2, .int .i64 a0_3] 37 (0, 0)) (uK a8.out)) : aa ≠ ab)); have n6_ := uZ ((by rw [hg]; exact Nat.ne_of_gt (blk_lt (g := aa) (o := .cells #[.slice A0_0 l0_0.length c0_0, .slice A0_1 l0_1.length c0_1, .slice A0_2 l0_2.length c0_2, .int .i64 a0_3] 37 (0, 0)) (uK a8.out)) : ab ≠ aa)); clear a8; clear HB; have a8 := n0_; have HB := n1_; have a9 := n2_; have GW228 := n3_; have ai := n4_; have ac := n5_; have ad := n6_; clear n0_ n1_ n2_ n3_ n4_ n5_ n6_; clear hb hbox hg))
 repeat (go_quiet (first | ((with_reducible refine gate_dst (N := 2) rfl ?_); (try (refine gate_guard (by rfl) ?_; dsimp only)); refine box_event ?hg (N := 2) ?hd (cs := #[.slice A0_0 l0_0.length c0_0, .slice A0_1 l0_1.length c0_1, .slice A0_2 l0_2.length c0_2, .int .i64 a0_3]) (t := 37) ?hr ?_; (case hd => rfl); (case hg => rfl); (case hr => first | (go_simp; done) | (go_simp; rfl)); intro aa hg w4 hbox hb; have n0_ := uZ (below_step (uB HB.out) hb); have n1_ := uZ (hbox); have n2_ := uZ ((by rw [hg]; exact (zE (uB HB.out)) : w.heap.size ≤ aa)); have n3_ := uZ ((by rw [hg]; exact (zE (uB HB.out)) : w.heap.size ≤ aa)); clear HB; have HB := n0_; have a8 := n1_; have GW227 := n2_; have ae := n3_; clear n0_ n1_ n2_ n3_; clear hb hbox hg) | ((with_reducible refine gate_dst (N := 3) rfl ?_); (try (refine gate_guard (by rfl) ?_; dsimp only)); refine box_event ?hg (N := 3) ?hd (cs := #[.slice A1_0 l1_0.length c1_0, .slice A1_1 l1_1.length c1_1, .slice A1_2 l1_2.length c1_2, .int .i64 a1_3]) (t := 37) ?hr ?_; (case hd => rfl); (case hg => rfl); (case hr => first | (go_simp; done) | (go_simp; rfl)); intro ab hg w5 hbox hb; have n0_ := uZ (blk_below (g := aa) (o := .cells #[.slice A0_0 l0_0.length c0_0, .slice A0_1 l0_1.length c0_1, .slice A0_2 l0_2.length c0_2, .int .i64 a0_3] 37 (0, 0)) (uK a8.out) hb); have n1_ := uZ (below_step (uC HB.out ae.out) hb); have n2_ := uZ (hbox); have n3_ := uZ ((by rw [hg]; exact (zE (uC HB.out ae.out)) : w.heap.size ≤ ab)); have n4_ := uZ ((by rw [hg]; exact (zE (uC HB.out ae.out)) : w.heap.size ≤ ab)); have n5_ := uZ ((by rw [hg]; exact Nat.ne_of_lt (blk_lt (g := aa) (o := .cells #[.slice A0_0 l0_0.length c0_0, .slice A0_1 l0_1.length c0_1, .slice A0_2 l0_2.length c0_2, .int .i64 a0_3] 37 (0, 0)) (uK a8.out)) : aa ≠ ab)); have n6_ := uZ ((by rw [hg]; exact Nat.ne_of_gt (blk_lt (g := aa) (o := .cells #[.slice A0_0 l0_0.length c0_0, .slice A0_1 l0_1.length c0_1, .slice A0_2 l0_2.length c0_2, .int .i64 a0_3] 37 (0, 0)) (uK a8.out)) : ab ≠ aa)); clear a8; clear HB; have a8 := n0_; have HB := n1_; have a9 := n2_; have GW228 := n3_; have ai := n4_; have ac := n5_; have ad := n6_; clear n0_ n1_ n2_ n3_ n4_ n5_ n6_; clear hb hbox hg)); go_upto_region 1 with (first | ((with_reducible refine gate_dst (N := 2) rfl ?_); (try (refine gate_guard (by rfl) ?_; dsimp only)); refine box_event ?hg (N := 2) ?hd (cs := #[.slice A0_0 l0_0.length c0_0, .slice A0_1 l0_1.length c0_1, .slice A0_2 l0_2.length c0_2, .int .i64 a0_3]) (t := 37) ?hr ?_; (case hd => rfl); (case hg => rfl); (case hr => first | (go_simp; done) | (go_simp; rfl)); intro aa hg w4 hbox hb; have n0_ := uZ (below_step (uB HB.out) hb); have n1_ := uZ (hbox); have n2_ := uZ ((by rw [hg]; exact (zE (uB HB.out)) : w.heap.size ≤ aa)); have n3_ := uZ ((by rw [hg]; exact (zE (uB HB.out)) : w.heap.size ≤ aa)); clear HB; have HB := n0_; have a8 := n1_; have GW227 := n2_; have ae := n3_; clear n0_ n1_ n2_ n3_; clear hb hbox hg) | ((with_reducible refine gate_dst (N := 3) rfl ?_); (try (refine gate_guard (by rfl) ?_; dsimp only)); refine box_event ?hg (N := 3) ?hd (cs := #[.slice A1_0 l1_0.length c1_0, .slice A1_1 l1_1.length c1_1, .slice A1_2 l1_2.length c1_2, .int .i64 a1_3]) (t := 37) ?hr ?_; (case hd => rfl); (case hg => rfl); (case hr => first | (go_simp; done) | (go_simp; rfl)); intro ab hg w5 hbox hb; have n0_ := uZ (blk_below (g := aa) (o := .cells #[.slice A0_0 l0_0.length c0_0, .slice A0_1 l0_1.length c0_1, .slice A0_2 l0_2.length c0_2, .int .i64 a0_3] 37 (0, 0)) (uK a8.out) hb); have n1_ := uZ (below_step (uC HB.out ae.out) hb); have n2_ := uZ (hbox); have n3_ := uZ ((by rw [hg]; exact (zE (uC HB.out ae.out)) : w.heap.size ≤ ab)); have n4_ := uZ ((by rw [hg]; exact (zE (uC HB.out ae.out)) : w.heap.size ≤ ab)); have n5_ := uZ ((by rw [hg]; exact Nat.ne_of_lt (blk_lt (g := aa) (o := .cells #[.slice A0_0 l0_0.length c0_0, .slice A0_1 l0_1.length c0_1, .slice A0_2 l0_2.length c0_2, .int .i64 a0_3] 37 (0, 0)) (uK a8.out)) : aa ≠ ab)); have n6_ := uZ ((by rw [hg]; exact Nat.ne_of_gt (blk_lt (g := aa) (o := .cells #[.slice A0_0 l0_0.length c0_0, .slice A0_1 l0_1.length c0_1, .slice A0_2 l0_2.length c0_2, .int .i64 a0_3] 37 (0, 0)) (uK a8.out)) : ab ≠ aa)); clear a8; clear HB; have a8 := n0_; have HB := n1_; have a9 := n2_; have GW228 := n3_; have ai := n4_; have ac := n5_; have ad := n6_; clear n0_ n1_ n2_ n3_ n4_ n5_ n6_; clear hb hbox hg)))
 (try simp only [Act.put, List.setIfInBounds_toArray, List.set_cons_zero, List.set_cons_succ])
 go_cut [39] (fun v39 wc => ∃ (kq : Nat) (x39_2 : Bool), v39 = .bool x39_2 ∧ Aside0 (switchbacklaw18_Same.j0 kq x39_2 l0_0 l0_1 l0_2 a0_3 l1_0 l1_1 l1_2 a1_3 = some r) ∧ Aside0 (kq ≤ k) ∧ Aside0 (wc.heap[aa]? = some (.cells #[(.slice A0_0 l0_0.length c0_0), (.slice A0_1 l0_1.length c0_1), (.slice A0_2 l0_2.length c0_2), .int .i64 a0_3] 37 (0, 0))) ∧ Aside0 (wc.heap[ab]? = some (.cells #[(.slice A1_0 l1_0.length c1_0), (.slice A1_1 l1_1.length c1_1), (.slice A1_2 l1_2.length c1_2), .int .i64 a1_3] 37 (0, 0))) ∧ Aside0 (Below w.heap.size w wc))
 case first =>
  have H := HC3.out
  clear HC3
  by_cases c6 : a0_3 = a1_3
  ·rw [if_pos c6] at H
   have c6b0 : (a0_3 == a1_3) = true := beq_iff_eq.mpr c6
   have c6b1 : (a0_3 != a1_3) = false := bne_eq_false_iff_eq.mpr c6
   clear c6
   (first | rw [c6b0] | (simp only [i64_w, i32_w]; rw [c6b0]) | skip)
   by_cases c7 : (l0_0.length : Int) = (l1_0.length : Int)
   ·rw [if_pos c7] at H
    have c7b0 : ((l0_0.length : Int) == (l1_0.length : Int)) = true := beq_iff_eq.mpr c7
    have c7b1 : ((l0_0.length : Int) != (l1_0.length : Int)) = false := bne_eq_false_iff_eq.mpr c7
    have c7b2 : (l0_0.length == l1_0.length) = true := by first | simpa using c7 | (simp at c7 ⊢; omega)
    clear c7
    by_cases c8 : (l0_1.length : Int) = (l1_1.length : Int)
    ·rw [if_pos c8] at H
     have c8b0 : ((l0_1.length : Int) == (l1_1.length : Int)) = true := beq_iff_eq.mpr c8
     have c8b1 : ((l0_1.length : Int) != (l1_1.length : Int)) = false := bne_eq_false_iff_eq.mpr c8
     have c8b2 : (l0_1.length == l1_1.length) = true := by first | simpa using c8 | (simp at c8 ⊢; omega)
     clear c8
     have H' := uZ H
     clear H
     have hnb9 := ac.out
     have hnc9 := ad.out
     have hcz10_0 : w5.cell? ⟨aa, 0, none⟩ = some (.slice A0_0 l0_0.length c0_0) := (zC a8.out 0).trans rfl
     have hcz10_1 : w5.cell? ⟨aa, 1, none⟩ = some (.slice A0_1 l0_1.length c0_1) := (zC a8.out 1).trans rfl
     have hcz10_2 : w5.cell? ⟨aa, 2, none⟩ = some (.slice A0_2 l0_2.length c0_2) := (zC a8.out 2).trans rfl
     have hcz10_3 : w5.cell? ⟨aa, 3, none⟩ = some (.int .i64 a0_3) := (zC a8.out 3).trans rfl
     have hfz10_0 := zB a8.out 0
     have hfz10_1 := zB a8.out 1
     have hfz10_2 := zB a8.out 2
     have hfz10_3 := zB a8.out 3
     have hcz11_0 : w5.cell? ⟨ab, 0, none⟩ = some (.slice A1_0 l1_0.length c1_0) := (zC a9.out 0).trans rfl
     have hcz11_1 : w5.cell? ⟨ab, 1, none⟩ = some (.slice A1_1 l1_1.length c1_1) := (zC a9.out 1).trans rfl
     have hcz11_2 : w5.cell? ⟨ab, 2, none⟩ = some (.slice A1_2 l1_2.length c1_2) := (zC a9.out 2).trans rfl
     have hcz11_3 : w5.cell? ⟨ab, 3, none⟩ = some (.int .i64 a1_3) := (zC a9.out 3).trans rfl
     have hfz11_0 := zB a9.out 0
     have hfz11_1 := zB a9.out 1
     have hfz11_2 := zB a9.out 2
     have hfz11_3 := zB a9.out 3
     go_wp2
     repeat (go_quiet (fail); try go_wp2)
     go_meet
     case rel => exact ⟨_, (((l0_2.length : Int) != (l1_2.length : Int))), (by first | rfl | (simp; done) | (simp [*]; done)), H', ⟨by first | omega | exact Nat.le_refl _⟩, ⟨uK a8.out⟩, ⟨uK a9.out⟩, ⟨uD HB.out ae.out ai.out⟩⟩
    rw [if_neg c8] at H
    have c8b0 : ((l0_1.length : Int) == (l1_1.length : Int)) = false := beq_eq_false_iff_ne.mpr c8
    have c8b1 : ((l0_1.length : Int) != (l1_1.length : Int)) = true := bne_iff_ne.mpr c8
    have c8b2 : (l0_1.length == l1_1.length) = false := by first | simpa using c8 | (simp at c8 ⊢; omega)
    have H' := uZ H
    clear H
    have hnb12 := ac.out
    have hnc12 := ad.out
    have hcz13_0 : w5.cell? ⟨aa, 0, none⟩ = some (.slice A0_0 l0_0.length c0_0) := (zC a8.out 0).trans rfl
    have hcz13_1 : w5.cell? ⟨aa, 1, none⟩ = some (.slice A0_1 l0_1.length c0_1) := (zC a8.out 1).trans rfl
    have hcz13_2 : w5.cell? ⟨aa, 2, none⟩ = some (.slice A0_2 l0_2.length c0_2) := (zC a8.out 2).trans rfl
    have hcz13_3 : w5.cell? ⟨aa, 3, none⟩ = some (.int .i64 a0_3) := (zC a8.out 3).trans rfl
    have hfz13_0 := zB a8.out 0
    have hfz13_1 := zB a8.out 1
    have hfz13_2 := zB a8.out 2
    have hfz13_3 := zB a8.out 3
    have hcz14_0 : w5.cell? ⟨ab, 0, none⟩ = some (.slice A1_0 l1_0.length c1_0) := (zC a9.out 0).trans rfl
    have hcz14_1 : w5.cell? ⟨ab, 1, none⟩ = some (.slice A1_1 l1_1.length c1_1) := (zC a9.out 1).trans rfl
    have hcz14_2 : w5.cell? ⟨ab, 2, none⟩ = some (.slice A1_2 l1_2.length c1_2) := (zC a9.out 2).trans rfl
    have hcz14_3 : w5.cell? ⟨ab, 3, none⟩ = some (.int .i64 a1_3) := (zC a9.out 3).trans rfl
    have hfz14_0 := zB a9.out 0
    have hfz14_1 := zB a9.out 1
    have hfz14_2 := zB a9.out 2
    have hfz14_3 := zB a9.out 3
    go_wp2
    repeat (go_quiet (fail); try go_wp2)
    go_meet
    case rel => exact ⟨_, (true), (by first | rfl | (simp; done) | (simp [*]; done)), H', ⟨by first | omega | exact Nat.le_refl _⟩, ⟨uK a8.out⟩, ⟨uK a9.out⟩, ⟨uD HB.out ae.out ai.out⟩⟩
   rw [if_neg c7] at H
   have c7b0 : ((l0_0.length : Int) == (l1_0.length : Int)) = false := beq_eq_false_iff_ne.mpr c7
   have c7b1 : ((l0_0.length : Int) != (l1_0.length : Int)) = true := bne_iff_ne.mpr c7
   have c7b2 : (l0_0.length == l1_0.length) = false := by first | simpa using c7 | (simp at c7 ⊢; omega)
   have H' := uZ H
   clear H
   have hnb15 := ac.out
   have hnc15 := ad.out
   have hcz16_0 : w5.cell? ⟨aa, 0, none⟩ = some (.slice A0_0 l0_0.length c0_0) := (zC a8.out 0).trans rfl
   have hcz16_1 : w5.cell? ⟨aa, 1, none⟩ = some (.slice A0_1 l0_1.length c0_1) := (zC a8.out 1).trans rfl
   have hcz16_2 : w5.cell? ⟨aa, 2, none⟩ = some (.slice A0_2 l0_2.length c0_2) := (zC a8.out 2).trans rfl
   have hcz16_3 : w5.cell? ⟨aa, 3, none⟩ = some (.int .i64 a0_3) := (zC a8.out 3).trans rfl
   have hfz16_0 := zB a8.out 0
   have hfz16_1 := zB a8.out 1
   have hfz16_2 := zB a8.out 2
   have hfz16_3 := zB a8.out 3
   have hcz17_0 : w5.cell? ⟨ab, 0, none⟩ = some (.slice A1_0 l1_0.length c1_0) := (zC a9.out 0).trans rfl
   have hcz17_1 : w5.cell? ⟨ab, 1, none⟩ = some (.slice A1_1 l1_1.length c1_1) := (zC a9.out 1).trans rfl
   have hcz17_2 : w5.cell? ⟨ab, 2, none⟩ = some (.slice A1_2 l1_2.length c1_2) := (zC a9.out 2).trans rfl
   have hcz17_3 : w5.cell? ⟨ab, 3, none⟩ = some (.int .i64 a1_3) := (zC a9.out 3).trans rfl
   have hfz17_0 := zB a9.out 0
   have hfz17_1 := zB a9.out 1
   have hfz17_2 := zB a9.out 2
   have hfz17_3 := zB a9.out 3
   go_wp2
   repeat (go_quiet (fail); try go_wp2)
   go_meet
   case rel => exact ⟨_, (true), (by first | rfl | (simp; done) | (simp [*]; done)), H', ⟨by first | omega | exact Nat.le_refl _⟩, ⟨uK a8.out⟩, ⟨uK a9.out⟩, ⟨uD HB.out ae.out ai.out⟩⟩
  rw [if_neg c6] at H
  have c6b0 : (a0_3 == a1_3) = false := beq_eq_false_iff_ne.mpr c6
  have c6b1 : (a0_3 != a1_3) = true := bne_iff_ne.mpr c6
  (first | rw [c6b0] | (simp only [i64_w, i32_w]; rw [c6b0]) | skip)
  have H' := uZ H
  clear H
  have hnb18 := ac.out
  have hnc18 := ad.out
  have hcz19_0 : w5.cell? ⟨aa, 0, none⟩ = some (.slice A0_0 l0_0.length c0_0) := (zC a8.out 0).trans rfl
  have hcz19_1 : w5.cell? ⟨aa, 1, none⟩ = some (.slice A0_1 l0_1.length c0_1) := (zC a8.out 1).trans rfl
  have hcz19_2 : w5.cell? ⟨aa, 2, none⟩ = some (.slice A0_2 l0_2.length c0_2) := (zC a8.out 2).trans rfl
  have hcz19_3 : w5.cell? ⟨aa, 3, none⟩ = some (.int .i64 a0_3) := (zC a8.out 3).trans rfl
  have hfz19_0 := zB a8.out 0
  have hfz19_1 := zB a8.out 1
  have hfz19_2 := zB a8.out 2
  have hfz19_3 := zB a8.out 3
  have hcz20_0 : w5.cell? ⟨ab, 0, none⟩ = some (.slice A1_0 l1_0.length c1_0) := (zC a9.out 0).trans rfl
  have hcz20_1 : w5.cell? ⟨ab, 1, none⟩ = some (.slice A1_1 l1_1.length c1_1) := (zC a9.out 1).trans rfl
  have hcz20_2 : w5.cell? ⟨ab, 2, none⟩ = some (.slice A1_2 l1_2.length c1_2) := (zC a9.out 2).trans rfl
  have hcz20_3 : w5.cell? ⟨ab, 3, none⟩ = some (.int .i64 a1_3) := (zC a9.out 3).trans rfl
  have hfz20_0 := zB a9.out 0
  have hfz20_1 := zB a9.out 1
  have hfz20_2 := zB a9.out 2
  have hfz20_3 := zB a9.out 3
  go_wp2
  repeat (go_quiet (fail); try go_wp2)
  go_meet
  case rel => exact ⟨_, (true), (by first | rfl | (simp; done) | (simp [*]; done)), H', ⟨by first | omega | exact Nat.le_refl _⟩, ⟨uK a8.out⟩, ⟨uK a9.out⟩, ⟨uD HB.out ae.out ai.out⟩⟩
 case rest =>
  clear HC3
  try clear c1
  try clear p2
  try clear c6
  try clear c6b0
  try clear c6b1
  try clear c7
  try clear c7b0
  try clear c7b1
  try clear c7b2
  try clear c8
  try clear c8b0
  try clear c8b1
  try clear c8b2
  try clear c9
  try clear c12
  try clear c15
  try clear c18
  try clear hcz10_0
  try clear hcz10_1
  try clear hcz10_2
  try clear hcz10_3
  try clear hcz11_0
  try clear hcz11_1
  try clear hcz11_2
  try clear hcz11_3
  try clear hcz13_0
  try clear hcz13_1
  try clear hcz13_2
  try clear hcz13_3
  try clear hcz14_0
  try clear hcz14_1
  try clear hcz14_2
  try clear hcz14_3
  try clear hcz16_0
  try clear hcz16_1
  try clear hcz16_2
  try clear hcz16_3
  try clear hcz17_0
  try clear hcz17_1
  try clear hcz17_2
  try clear hcz17_3
  try clear hcz19_0
  try clear hcz19_1
  try clear hcz19_2
  try clear hcz19_3
  try clear hcz20_0
  try clear hcz20_1
  try clear hcz20_2
  try clear hcz20_3
  try clear hfz10_0
  try clear hfz10_1
  try clear hfz10_2
  try clear hfz10_3
  try clear hfz11_0
  try clear hfz11_1
  try clear hfz11_2
  try clear hfz11_3
  try clear hfz13_0
  try clear hfz13_1
  try clear hfz13_2
  try clear hfz13_3
  try clear hfz14_0
  try clear hfz14_1
  try clear hfz14_2
  try clear hfz14_3
  try clear hfz16_0
  try clear hfz16_1
  try clear hfz16_2
  try clear hfz16_3
  try clear hfz17_0
  try clear hfz17_1
  try clear hfz17_2
  try clear hfz17_3
  try clear hfz19_0
  try clear hfz19_1
  try clear hfz19_2
  try clear hfz19_3
  try clear hfz20_0
  try clear hfz20_1
  try clear hfz20_2
  try clear hfz20_3
  obtain ⟨kq, x39_2, rfl, HA, HJ2, a8, a9, HB⟩ := hcut
  cases kq with
  | zero => exact absurd HA.out (by simp [switchbacklaw18_Same.j0])
  | succ kj2 =>
   have H := HA.out
   clear HA
   simp only [switchbacklaw18_Same.j0] at H
   by_cases c21 : x39_2 = true
   ·subst c21
    have H1 : (some false) = some r := by rw [if_pos rfl] at H; exact H
    clear H
    have H := H1
    clear H1
    obtain rfl := Option.some.inj H
    go_wp2
    repeat (go_quiet (fail); try go_wp2)
    go_ret
    exact ⟨by first | rfl | (simp [errW_none, errW_some] <;> rfl) | (simp [*, errW_none, errW_some] <;> rfl), by repeat (first | (with_reducible first | exact HB.out | apply below_alloc | apply zA | apply below_drew1 | refine zD ?_ ae.out | refine zD ?_ ai.out) | exact HB.out)⟩
   replace c21 := Bool.eq_false_iff.mpr c21
   subst c21
   have H1 : (switchbacklaw18_Same.l0 kj2 0 l0_0 l0_1 l0_2 a0_3 l1_0 l1_1 l1_2 a1_3) = some r := by rw [if_neg (show ¬ (false = true) by decide)] at H; exact H
   clear H
   have H := H1
   clear H1
   have H' := uZ H
   clear H
   go_wp2
   repeat (go_quiet (fail); try go_wp2)
   go_loopg [5] kj2 (fun kq v5 w' => ∃ (af : Int), v5 = .int .i64 af ∧ Aside0 (switchbacklaw18_Same.l0 kq af l0_0 l0_1 l0_2 a0_3 l1_0 l1_1 l1_2 a1_3 = some r) ∧ Aside0 (kq ≤ kj2) ∧ Aside0 (w'.heap[aa]? = some (.cells #[(.slice A0_0 l0_0.length c0_0), (.slice A0_1 l0_1.length c0_1), (.slice A0_2 l0_2.length c0_2), .int .i64 a0_3] 37 (0, 0))) ∧ Aside0 (w'.heap[ab]? = some (.cells #[(.slice A1_0 l1_0.length c1_0), (.slice A1_1 l1_1.length c1_1), (.slice A1_2 l1_2.length c1_2), .int .i64 a1_3] 37 (0, 0))) ∧ Aside0 (Below w.heap.size w w'))
   case atStart => exact ⟨(0), (by first | rfl | (simp; done) | (simp [*]; done)), H', ⟨Nat.le_refl _⟩, ⟨uK a8.out⟩, ⟨uK a9.out⟩, ⟨uD HB.out ae.out ai.out⟩⟩
   case round =>
    clear H'
    try clear c1
    try clear c2
    try clear p2
    try clear c6
    try clear c6b0
    try clear c6b1
    try clear c7
    try clear c7b0
    try clear c7b1
    try clear c7b2
    try clear c8
    try clear c8b0
    try clear c8b1
    try clear c8b2
    try clear c9
    try clear c12
    try clear c15
    try clear c18
    try clear c21
    try clear hcz10_0
    try clear hcz10_1
    try clear hcz10_2
    try clear hcz10_3
    try clear hcz11_0
    try clear hcz11_1
    try clear hcz11_2
    try clear hcz11_3
    try clear hcz13_0
    try clear hcz13_1
    try clear hcz13_2
    try clear hcz13_3
    try clear hcz14_0
    try clear hcz14_1
    try clear hcz14_2
    try clear hcz14_3
    try clear hcz16_0
    try clear hcz16_1
    try clear hcz16_2
    try clear hcz16_3
    try clear hcz17_0
    try clear hcz17_1
    try clear hcz17_2
    try clear hcz17_3
    try clear hcz19_0
    try clear hcz19_1
    try clear hcz19_2
    try clear hcz19_3
    try clear hcz20_0
    try clear hcz20_1
    try clear hcz20_2
    try clear hcz20_3
    try clear hfz10_0
    try clear hfz10_1
    try clear hfz10_2
    try clear hfz10_3
    try clear hfz11_0
    try clear hfz11_1
    try clear hfz11_2
    try clear hfz11_3
    try clear hfz13_0
    try clear hfz13_1
    try clear hfz13_2
    try clear hfz13_3
    try clear hfz14_0
    try clear hfz14_1
    try clear hfz14_2
    try clear hfz14_3
    try clear hfz16_0
    try clear hfz16_1
    try clear hfz16_2
    try clear hfz16_3
    try clear hfz17_0
    try clear hfz17_1
    try clear hfz17_2
    try clear hfz17_3
    try clear hfz19_0
    try clear hfz19_1
    try clear hfz19_2
    try clear hfz19_3
    try clear hfz20_0
    try clear hfz20_1
    try clear hfz20_2
    try clear hfz20_3
    try clear p2
    obtain ⟨af, rfl, HA, HK2, a8, a9, HB⟩ := hrel
    cases gk with
    | zero => exact absurd HA.out (by simp [switchbacklaw18_Same.l0])
    | succ k2 =>
     have H := HA.out
     clear HA
     simp only [switchbacklaw18_Same.l0] at H
     by_cases c22 : af < (l0_0.length : Int)
     ·rw [if_pos c22] at H
      have c22b0 : decide (af < (l0_0.length : Int)) = true := decide_eq_true c22
      clear c22
      by_cases c23 : 0 ≤ af
      ·rw [if_pos c23] at H
       have c23b0 : decide (0 ≤ af) = true := decide_eq_true c23
       clear c23
       by_cases c24 : af < (l1_0.length : Int)
       ·rw [if_pos c24] at H
        have c24b0 : decide (af < (l1_0.length : Int)) = true := decide_eq_true c24
        clear c24
        by_cases c25 : (rd l0_0 af) = (rd l1_0 af)
        ·rw [if_pos c25] at H
         have c25b0 : ((rd l0_0 af) == (rd l1_0 af)) = true := beq_iff_eq.mpr c25
         have c25b1 : ((rd l0_0 af) != (rd l1_0 af)) = false := bne_eq_false_iff_eq.mpr c25
         clear c25
         have H' := uZ H
         clear H
         have hnb26 := ac.out
         have hnc26 := ad.out
         have hcz27_0 : wr.cell? ⟨aa, 0, none⟩ = some (.slice A0_0 l0_0.length c0_0) := (zC a8.out 0).trans rfl
         have hcz27_1 : wr.cell? ⟨aa, 1, none⟩ = some (.slice A0_1 l0_1.length c0_1) := (zC a8.out 1).trans rfl
         have hcz27_2 : wr.cell? ⟨aa, 2, none⟩ = some (.slice A0_2 l0_2.length c0_2) := (zC a8.out 2).trans rfl
         have hcz27_3 : wr.cell? ⟨aa, 3, none⟩ = some (.int .i64 a0_3) := (zC a8.out 3).trans rfl
         have hfz27_0 := zB a8.out 0
         have hfz27_1 := zB a8.out 1
         have hfz27_2 := zB a8.out 2
         have hfz27_3 := zB a8.out 3
         have p229 : 0 ≤ (af : Int) := uA
         have q229 : af < (l0_0.length : Int) := uA
         obtain ⟨ad229, e229, aj⟩ := Kd.at_int HR0_0.out af p229 q229
         cases e229
         replace aj := (HB.out.cell (zF w _ aj)).trans aj
         replace p229 := eq_true p229
         replace q229 := eq_true q229
         have hcz28_0 : wr.cell? ⟨ab, 0, none⟩ = some (.slice A1_0 l1_0.length c1_0) := (zC a9.out 0).trans rfl
         have hcz28_1 : wr.cell? ⟨ab, 1, none⟩ = some (.slice A1_1 l1_1.length c1_1) := (zC a9.out 1).trans rfl
         have hcz28_2 : wr.cell? ⟨ab, 2, none⟩ = some (.slice A1_2 l1_2.length c1_2) := (zC a9.out 2).trans rfl
         have hcz28_3 : wr.cell? ⟨ab, 3, none⟩ = some (.int .i64 a1_3) := (zC a9.out 3).trans rfl
         have hfz28_0 := zB a9.out 0
         have hfz28_1 := zB a9.out 1
         have hfz28_2 := zB a9.out 2
         have hfz28_3 := zB a9.out 3
         have p230 : 0 ≤ (af : Int) := uA
         have q230 : af < (l1_0.length : Int) := uA
         obtain ⟨ad230, e230, ak⟩ := Kd.at_int HR1_0.out af p230 q230
         cases e230
         replace ak := (HB.out.cell (zF w _ ak)).trans ak
         replace p230 := eq_true p230
         replace q230 := eq_true q230
         go_wp2
         repeat (go_quiet (fail); try go_wp2)
         go_roundg k2
         case measure => have := HJ2.out; have := HK2.out; omega
         case rel => exact ⟨(wrap64 (af + 1)), (by first | rfl | (simp; done) | (simp [*]; done)), H', ⟨by have := HJ2.out; have := HK2.out; omega⟩, ⟨uK a8.out⟩, ⟨uK a9.out⟩, ⟨uD HB.out ae.out ai.out⟩⟩
        rw [if_neg c25] at H
        have c25b0 : ((rd l0_0 af) == (rd l1_0 af)) = false := beq_eq_false_iff_ne.mpr c25
        have c25b1 : ((rd l0_0 af) != (rd l1_0 af)) = true := bne_iff_ne.mpr c25
        obtain rfl := Option.some.inj H
        have hnb29 := ac.out
        have hnc29 := ad.out
        have hcz30_0 : wr.cell? ⟨aa, 0, none⟩ = some (.slice A0_0 l0_0.length c0_0) := (zC a8.out 0).trans rfl
        have hcz30_1 : wr.cell? ⟨aa, 1, none⟩ = some (.slice A0_1 l0_1.length c0_1) := (zC a8.out 1).trans rfl
        have hcz30_2 : wr.cell? ⟨aa, 2, none⟩ = some (.slice A0_2 l0_2.length c0_2) := (zC a8.out 2).trans rfl
        have hcz30_3 : wr.cell? ⟨aa, 3, none⟩ = some (.int .i64 a0_3) := (zC a8.out 3).trans rfl
        have hfz30_0 := zB a8.out 0
        have hfz30_1 := zB a8.out 1
        have hfz30_2 := zB a8.out 2
        have hfz30_3 := zB a8.out 3
        have p229 : 0 ≤ (af : Int) := uA
        have q229 : af < (l0_0.length : Int) := uA
        obtain ⟨ad229, e229, aj⟩ := Kd.at_int HR0_0.out af p229 q229
        cases e229
        replace aj := (HB.out.cell (zF w _ aj)).trans aj
        replace p229 := eq_true p229
        replace q229 := eq_true q229
        have hcz31_0 : wr.cell? ⟨ab, 0, none⟩ = some (.slice A1_0 l1_0.length c1_0) := (zC a9.out 0).trans rfl
        have hcz31_1 : wr.cell? ⟨ab, 1, none⟩ = some (.slice A1_1 l1_1.length c1_1) := (zC a9.out 1).trans rfl
        have hcz31_2 : wr.cell? ⟨ab, 2, none⟩ = some (.slice A1_2 l1_2.length c1_2) := (zC a9.out 2).trans rfl
        have hcz31_3 : wr.cell? ⟨ab, 3, none⟩ = some (.int .i64 a1_3) := (zC a9.out 3).trans rfl
        have hfz31_0 := zB a9.out 0
        have hfz31_1 := zB a9.out 1
        have hfz31_2 := zB a9.out 2
        have hfz31_3 := zB a9.out 3
        have p230 : 0 ≤ (af : Int) := uA
        have q230 : af < (l1_0.length : Int) := uA
        obtain ⟨ad230, e230, ak⟩ := Kd.at_int HR1_0.out af p230 q230
        cases e230
        replace ak := (HB.out.cell (zF w _ ak)).trans ak
        replace p230 := eq_true p230
        replace q230 := eq_true q230
        go_wp2
        repeat (go_quiet (fail); try go_wp2)
        go_ret
        exact ⟨by first | rfl | (simp [errW_none, errW_some] <;> rfl) | (simp [*, errW_none, errW_some] <;> rfl), by repeat (first | (with_reducible first | exact HB.out | apply below_alloc | apply zA | apply below_drew1 | refine zD ?_ ae.out | refine zD ?_ ai.out) | exact HB.out)⟩
       rw [if_neg c24] at H
       exact absurd H (by simp)
      rw [if_neg c23] at H
      exact absurd H (by simp)
     rw [if_neg c22] at H
     have c22b0 : decide (af < (l0_0.length : Int)) = false := decide_eq_false c22
     clear c22
     have H' := uZ H
     clear H
     have hnb32 := ac.out
     have hnc32 := ad.out
     have hcz33_0 : wr.cell? ⟨aa, 0, none⟩ = some (.slice A0_0 l0_0.length c0_0) := (zC a8.out 0).trans rfl
     have hcz33_1 : wr.cell? ⟨aa, 1, none⟩ = some (.slice A0_1 l0_1.length c0_1) := (zC a8.out 1).trans rfl
     have hcz33_2 : wr.cell? ⟨aa, 2, none⟩ = some (.slice A0_2 l0_2.length c0_2) := (zC a8.out 2).trans rfl
     have hcz33_3 : wr.cell? ⟨aa, 3, none⟩ = some (.int .i64 a0_3) := (zC a8.out 3).trans rfl
     have hfz33_0 := zB a8.out 0
     have hfz33_1 := zB a8.out 1
     have hfz33_2 := zB a8.out 2
     have hfz33_3 := zB a8.out 3
     go_wp2
     repeat (go_quiet (fail); try go_wp2)
     go_loopg [6] k2 (fun kq v6 w' => ∃ (ag : Int), v6 = .int .i64 ag ∧ Aside0 (switchbacklaw18_Same.l1 kq ag l0_0 l0_1 l0_2 a0_3 l1_0 l1_1 l1_2 a1_3 = some r) ∧ Aside0 (kq ≤ k2) ∧ Aside0 (w'.heap[aa]? = some (.cells #[(.slice A0_0 l0_0.length c0_0), (.slice A0_1 l0_1.length c0_1), (.slice A0_2 l0_2.length c0_2), .int .i64 a0_3] 37 (0, 0))) ∧ Aside0 (w'.heap[ab]? = some (.cells #[(.slice A1_0 l1_0.length c1_0), (.slice A1_1 l1_1.length c1_1), (.slice A1_2 l1_2.length c1_2), .int .i64 a1_3] 37 (0, 0))) ∧ Aside0 (Below w.heap.size w w'))
     case atStart => exact ⟨(0), (by first | rfl | (simp; done) | (simp [*]; done)), H', ⟨Nat.le_refl _⟩, ⟨uK a8.out⟩, ⟨uK a9.out⟩, ⟨uD HB.out ae.out ai.out⟩⟩
     case round =>
      clear H'
      try clear c1
      try clear c2
      try clear p2
      try clear q2
      try clear hx2
      try clear c3
      try clear c6
      try clear c6b0
      try clear c6b1
      try clear p6
      try clear c7
      try clear c7b0
      try clear c7b1
      try clear c7b2
      try clear c8
      try clear c8b0
      try clear c8b1
      try clear c8b2
      try clear c9
      try clear c12
      try clear c15
      try clear c18
      try clear c21
      try clear c22
      try clear c22b0
      try clear p22
      try clear q22
      try clear hx22
      try clear c23
      try clear c23b0
      try clear p23
      try clear q23
      try clear hx23
      try clear c24
      try clear c24b0
      try clear c25
      try clear c25b0
      try clear c25b1
      try clear c26
      try clear c29
      try clear c32
      try clear hcz10_0
      try clear hcz10_1
      try clear hcz10_2
      try clear hcz10_3
      try clear hcz11_0
      try clear hcz11_1
      try clear hcz11_2
      try clear hcz11_3
      try clear hcz13_0
      try clear hcz13_1
      try clear hcz13_2
      try clear hcz13_3
      try clear hcz14_0
      try clear hcz14_1
      try clear hcz14_2
      try clear hcz14_3
      try clear hcz16_0
      try clear hcz16_1
      try clear hcz16_2
      try clear hcz16_3
      try clear hcz17_0
      try clear hcz17_1
      try clear hcz17_2
      try clear hcz17_3
      try clear hcz19_0
      try clear hcz19_1
      try clear hcz19_2
      try clear hcz19_3
      try clear hcz20_0
      try clear hcz20_1
      try clear hcz20_2
      try clear hcz20_3
      try clear hcz27_0
      try clear hcz27_1
      try clear hcz27_2
      try clear hcz27_3
      try clear hcz28_0
      try clear hcz28_1
      try clear hcz28_2
      try clear hcz28_3
      try clear hcz30_0
      try clear hcz30_1
      try clear hcz30_2
      try clear hcz30_3
      try clear hcz31_0
      try clear hcz31_1
      try clear hcz31_2
      try clear hcz31_3
      try clear hcz33_0
      try clear hcz33_1
      try clear hcz33_2
      try clear hcz33_3
      try clear hfz10_0
      try clear hfz10_1
      try clear hfz10_2
      try clear hfz10_3
      try clear hfz11_0
      try clear hfz11_1
      try clear hfz11_2
      try clear hfz11_3
      try clear hfz13_0
      try clear hfz13_1
      try clear hfz13_2
      try clear hfz13_3
      try clear hfz14_0
      try clear hfz14_1
      try clear hfz14_2
      try clear hfz14_3
      try clear hfz16_0
      try clear hfz16_1
      try clear hfz16_2
      try clear hfz16_3
      try clear hfz17_0
      try clear hfz17_1
      try clear hfz17_2
      try clear hfz17_3
      try clear hfz19_0
      try clear hfz19_1
      try clear hfz19_2
      try clear hfz19_3
      try clear hfz20_0
      try clear hfz20_1
      try clear hfz20_2
      try clear hfz20_3
      try clear hfz27_0
      try clear hfz27_1
      try clear hfz27_2
      try clear hfz27_3
      try clear hfz28_0
      try clear hfz28_1
      try clear hfz28_2
      try clear hfz28_3
      try clear hfz30_0
      try clear hfz30_1
      try clear hfz30_2
      try clear hfz30_3
      try clear hfz31_0
      try clear hfz31_1
      try clear hfz31_2
      try clear hfz31_3
      try clear hfz33_0
      try clear hfz33_1
      try clear hfz33_2
      try clear hfz33_3
      try clear aj
      try clear ak
      try clear p2
      try clear p229
      try clear p230
      try clear q229
      try clear q230
      obtain ⟨ag, rfl, HA, HK3, a8, a9, HB⟩ := hrel
      cases gk with
      | zero => exact absurd HA.out (by simp [switchbacklaw18_Same.l1])
      | succ k3 =>
       have H := HA.out
       clear HA
       simp only [switchbacklaw18_Same.l1] at H
       by_cases c34 : ag < (l0_1.length : Int)
       ·rw [if_pos c34] at H
        have c34b0 : decide (ag < (l0_1.length : Int)) = true := decide_eq_true c34
        clear c34
        by_cases c35 : 0 ≤ ag
        ·rw [if_pos c35] at H
         have c35b0 : decide (0 ≤ ag) = true := decide_eq_true c35
         clear c35
         by_cases c36 : ag < (l1_1.length : Int)
         ·rw [if_pos c36] at H
          have c36b0 : decide (ag < (l1_1.length : Int)) = true := decide_eq_true c36
          clear c36
          by_cases c37 : (rd l0_1 ag) = (rd l1_1 ag)
          ·rw [if_pos c37] at H
           have c37b0 : ((rd l0_1 ag) == (rd l1_1 ag)) = true := beq_iff_eq.mpr c37
           have c37b1 : ((rd l0_1 ag) != (rd l1_1 ag)) = false := bne_eq_false_iff_eq.mpr c37
           clear c37
           have H' := uZ H
           clear H
           have hnb38 := ac.out
           have hnc38 := ad.out
           have hcz39_0 : wr.cell? ⟨aa, 0, none⟩ = some (.slice A0_0 l0_0.length c0_0) := (zC a8.out 0).trans rfl
           have hcz39_1 : wr.cell? ⟨aa, 1, none⟩ = some (.slice A0_1 l0_1.length c0_1) := (zC a8.out 1).trans rfl
           have hcz39_2 : wr.cell? ⟨aa, 2, none⟩ = some (.slice A0_2 l0_2.length c0_2) := (zC a8.out 2).trans rfl
           have hcz39_3 : wr.cell? ⟨aa, 3, none⟩ = some (.int .i64 a0_3) := (zC a8.out 3).trans rfl
           have hfz39_0 := zB a8.out 0
           have hfz39_1 := zB a8.out 1
           have hfz39_2 := zB a8.out 2
           have hfz39_3 := zB a8.out 3
           have p231 : 0 ≤ (ag : Int) := uA
           have q231 : ag < (l0_1.length : Int) := uA
           obtain ⟨ad231, e231, al⟩ := Kd.at_int HR0_1.out ag p231 q231
           cases e231
           replace al := (HB.out.cell (zF w _ al)).trans al
           replace p231 := eq_true p231
           replace q231 := eq_true q231
           have hcz40_0 : wr.cell? ⟨ab, 0, none⟩ = some (.slice A1_0 l1_0.length c1_0) := (zC a9.out 0).trans rfl
           have hcz40_1 : wr.cell? ⟨ab, 1, none⟩ = some (.slice A1_1 l1_1.length c1_1) := (zC a9.out 1).trans rfl
           have hcz40_2 : wr.cell? ⟨ab, 2, none⟩ = some (.slice A1_2 l1_2.length c1_2) := (zC a9.out 2).trans rfl
           have hcz40_3 : wr.cell? ⟨ab, 3, none⟩ = some (.int .i64 a1_3) := (zC a9.out 3).trans rfl
           have hfz40_0 := zB a9.out 0
           have hfz40_1 := zB a9.out 1
           have hfz40_2 := zB a9.out 2
           have hfz40_3 := zB a9.out 3
           have p232 : 0 ≤ (ag : Int) := uA
           have q232 : ag < (l1_1.length : Int) := uA
           obtain ⟨ad232, e232, am⟩ := Kd.at_int HR1_1.out ag p232 q232
           cases e232
           replace am := (HB.out.cell (zF w _ am)).trans am
           replace p232 := eq_true p232
           replace q232 := eq_true q232
           go_wp2
           repeat (go_quiet (fail); try go_wp2)
           go_roundg k3
           case measure => have := HJ2.out; have := HK2.out; have := HK3.out; omega
           case rel => exact ⟨(wrap64 (ag + 1)), (by first | rfl | (simp; done) | (simp [*]; done)), H', ⟨by have := HJ2.out; have := HK2.out; have := HK3.out; omega⟩, ⟨uK a8.out⟩, ⟨uK a9.out⟩, ⟨uD HB.out ae.out ai.out⟩⟩
          rw [if_neg c37] at H
          have c37b0 : ((rd l0_1 ag) == (rd l1_1 ag)) = false := beq_eq_false_iff_ne.mpr c37
          have c37b1 : ((rd l0_1 ag) != (rd l1_1 ag)) = true := bne_iff_ne.mpr c37
          obtain rfl := Option.some.inj H
          have hnb41 := ac.out
          have hnc41 := ad.out
          have hcz42_0 : wr.cell? ⟨aa, 0, none⟩ = some (.slice A0_0 l0_0.length c0_0) := (zC a8.out 0).trans rfl
          have hcz42_1 : wr.cell? ⟨aa, 1, none⟩ = some (.slice A0_1 l0_1.length c0_1) := (zC a8.out 1).trans rfl
          have hcz42_2 : wr.cell? ⟨aa, 2, none⟩ = some (.slice A0_2 l0_2.length c0_2) := (zC a8.out 2).trans rfl
          have hcz42_3 : wr.cell? ⟨aa, 3, none⟩ = some (.int .i64 a0_3) := (zC a8.out 3).trans rfl
          have hfz42_0 := zB a8.out 0
          have hfz42_1 := zB a8.out 1
          have hfz42_2 := zB a8.out 2
          have hfz42_3 := zB a8.out 3
          have p231 : 0 ≤ (ag : Int) := uA
          have q231 : ag < (l0_1.length : Int) := uA
          obtain ⟨ad231, e231, al⟩ := Kd.at_int HR0_1.out ag p231 q231
          cases e231
          replace al := (HB.out.cell (zF w _ al)).trans al
          replace p231 := eq_true p231
          replace q231 := eq_true q231
          have hcz43_0 : wr.cell? ⟨ab, 0, none⟩ = some (.slice A1_0 l1_0.length c1_0) := (zC a9.out 0).trans rfl
          have hcz43_1 : wr.cell? ⟨ab, 1, none⟩ = some (.slice A1_1 l1_1.length c1_1) := (zC a9.out 1).trans rfl
          have hcz43_2 : wr.cell? ⟨ab, 2, none⟩ = some (.slice A1_2 l1_2.length c1_2) := (zC a9.out 2).trans rfl
          have hcz43_3 : wr.cell? ⟨ab, 3, none⟩ = some (.int .i64 a1_3) := (zC a9.out 3).trans rfl
          have hfz43_0 := zB a9.out 0
          have hfz43_1 := zB a9.out 1
          have hfz43_2 := zB a9.out 2
          have hfz43_3 := zB a9.out 3
          have p232 : 0 ≤ (ag : Int) := uA
          have q232 : ag < (l1_1.length : Int) := uA
          obtain ⟨ad232, e232, am⟩ := Kd.at_int HR1_1.out ag p232 q232
          cases e232
          replace am := (HB.out.cell (zF w _ am)).trans am
          replace p232 := eq_true p232
          replace q232 := eq_true q232
          go_wp2
          repeat (go_quiet (fail); try go_wp2)
          go_ret
          exact ⟨by first | rfl | (simp [errW_none, errW_some] <;> rfl) | (simp [*, errW_none, errW_some] <;> rfl), by repeat (first | (with_reducible first | exact HB.out | apply below_alloc | apply zA | apply below_drew1 | refine zD ?_ ae.out | refine zD ?_ ai.out) | exact HB.out)⟩
         rw [if_neg c36] at H
         exact absurd H (by simp)
        rw [if_neg c35] at H
        exact absurd H (by simp)
       rw [if_neg c34] at H
       have c34b0 : decide (ag < (l0_1.length : Int)) = false := decide_eq_false c34
       clear c34
       have H' := uZ H
       clear H
       have hnb44 := ac.out
       have hnc44 := ad.out
       have hcz45_0 : wr.cell? ⟨aa, 0, none⟩ = some (.slice A0_0 l0_0.length c0_0) := (zC a8.out 0).trans rfl
       have hcz45_1 : wr.cell? ⟨aa, 1, none⟩ = some (.slice A0_1 l0_1.length c0_1) := (zC a8.out 1).trans rfl
       have hcz45_2 : wr.cell? ⟨aa, 2, none⟩ = some (.slice A0_2 l0_2.length c0_2) := (zC a8.out 2).trans rfl
       have hcz45_3 : wr.cell? ⟨aa, 3, none⟩ = some (.int .i64 a0_3) := (zC a8.out 3).trans rfl
       have hfz45_0 := zB a8.out 0
       have hfz45_1 := zB a8.out 1
       have hfz45_2 := zB a8.out 2
       have hfz45_3 := zB a8.out 3
       go_wp2
       repeat (go_quiet (fail); try go_wp2)
       go_loopg [7] k3 (fun kq v7 w' => ∃ (ah : Int), v7 = .int .i64 ah ∧ Aside0 (switchbacklaw18_Same.l2 kq ah l0_0 l0_1 l0_2 a0_3 l1_0 l1_1 l1_2 a1_3 = some r) ∧ Aside0 (kq ≤ k3) ∧ Aside0 (w'.heap[aa]? = some (.cells #[(.slice A0_0 l0_0.length c0_0), (.slice A0_1 l0_1.length c0_1), (.slice A0_2 l0_2.length c0_2), .int .i64 a0_3] 37 (0, 0))) ∧ Aside0 (w'.heap[ab]? = some (.cells #[(.slice A1_0 l1_0.length c1_0), (.slice A1_1 l1_1.length c1_1), (.slice A1_2 l1_2.length c1_2), .int .i64 a1_3] 37 (0, 0))) ∧ Aside0 (Below w.heap.size w w'))
       case atStart => exact ⟨(0), (by first | rfl | (simp; done) | (simp [*]; done)), H', ⟨Nat.le_refl _⟩, ⟨uK a8.out⟩, ⟨uK a9.out⟩, ⟨uD HB.out ae.out ai.out⟩⟩
       case round =>
        clear H'
        try clear c1
        try clear c2
        try clear p2
        try clear q2
        try clear hx2
        try clear c3
        try clear c4
        try clear c6
        try clear c6b0
        try clear c6b1
        try clear p6
        try clear c7
        try clear c7b0
        try clear c7b1
        try clear c7b2
        try clear c8
        try clear c8b0
        try clear c8b1
        try clear c8b2
        try clear c9
        try clear c12
        try clear c15
        try clear c18
        try clear c21
        try clear c22
        try clear c22b0
        try clear p22
        try clear q22
        try clear hx22
        try clear c23
        try clear c23b0
        try clear p23
        try clear q23
        try clear hx23
        try clear c24
        try clear c24b0
        try clear c25
        try clear c25b0
        try clear c25b1
        try clear c26
        try clear c29
        try clear c32
        try clear c34
        try clear c34b0
        try clear c35
        try clear c35b0
        try clear c36
        try clear c36b0
        try clear c37
        try clear c37b0
        try clear c37b1
        try clear c38
        try clear c41
        try clear c44
        try clear hcz10_0
        try clear hcz10_1
        try clear hcz10_2
        try clear hcz10_3
        try clear hcz11_0
        try clear hcz11_1
        try clear hcz11_2
        try clear hcz11_3
        try clear hcz13_0
        try clear hcz13_1
        try clear hcz13_2
        try clear hcz13_3
        try clear hcz14_0
        try clear hcz14_1
        try clear hcz14_2
        try clear hcz14_3
        try clear hcz16_0
        try clear hcz16_1
        try clear hcz16_2
        try clear hcz16_3
        try clear hcz17_0
        try clear hcz17_1
        try clear hcz17_2
        try clear hcz17_3
        try clear hcz19_0
        try clear hcz19_1
        try clear hcz19_2
        try clear hcz19_3
        try clear hcz20_0
        try clear hcz20_1
        try clear hcz20_2
        try clear hcz20_3
        try clear hcz27_0
        try clear hcz27_1
        try clear hcz27_2
        try clear hcz27_3
        try clear hcz28_0
        try clear hcz28_1
        try clear hcz28_2
        try clear hcz28_3
        try clear hcz30_0
        try clear hcz30_1
        try clear hcz30_2
        try clear hcz30_3
        try clear hcz31_0
        try clear hcz31_1
        try clear hcz31_2
        try clear hcz31_3
        try clear hcz33_0
        try clear hcz33_1
        try clear hcz33_2
        try clear hcz33_3
        try clear hcz39_0
        try clear hcz39_1
        try clear hcz39_2
        try clear hcz39_3
        try clear hcz40_0
        try clear hcz40_1
        try clear hcz40_2
        try clear hcz40_3
        try clear hcz42_0
        try clear hcz42_1
        try clear hcz42_2
        try clear hcz42_3
        try clear hcz43_0
        try clear hcz43_1
        try clear hcz43_2
        try clear hcz43_3
        try clear hcz45_0
        try clear hcz45_1
        try clear hcz45_2
        try clear hcz45_3
        try clear hfz10_0
        try clear hfz10_1
        try clear hfz10_2
        try clear hfz10_3
        try clear hfz11_0
        try clear hfz11_1
        try clear hfz11_2
        try clear hfz11_3
        try clear hfz13_0
        try clear hfz13_1
        try clear hfz13_2
        try clear hfz13_3
        try clear hfz14_0
        try clear hfz14_1
        try clear hfz14_2
        try clear hfz14_3
        try clear hfz16_0
        try clear hfz16_1
        try clear hfz16_2
        try clear hfz16_3
        try clear hfz17_0
        try clear hfz17_1
        try clear hfz17_2
        try clear hfz17_3
        try clear hfz19_0
        try clear hfz19_1
        try clear hfz19_2
        try clear hfz19_3
        try clear hfz20_0
        try clear hfz20_1
        try clear hfz20_2
        try clear hfz20_3
        try clear hfz27_0
        try clear hfz27_1
        try clear hfz27_2
        try clear hfz27_3
        try clear hfz28_0
        try clear hfz28_1
        try clear hfz28_2
        try clear hfz28_3
        try clear hfz30_0
        try clear hfz30_1
        try clear hfz30_2
        try clear hfz30_3
        try clear hfz31_0
        try clear hfz31_1
        try clear hfz31_2
        try clear hfz31_3
        try clear hfz33_0
        try clear hfz33_1
        try clear hfz33_2
        try clear hfz33_3
        try clear hfz39_0
        try clear hfz39_1
        try clear hfz39_2
        try clear hfz39_3
        try clear hfz40_0
        try clear hfz40_1
        try clear hfz40_2
        try clear hfz40_3
        try clear hfz42_0
        try clear hfz42_1
        try clear hfz42_2
        try clear hfz42_3
        try clear hfz43_0
        try clear hfz43_1
        try clear hfz43_2
        try clear hfz43_3
        try clear hfz45_0
        try clear hfz45_1
        try clear hfz45_2
        try clear hfz45_3
        try clear aj
        try clear ak
        try clear al
        try clear am
        try clear p2
        try clear p22
        try clear p229
        try clear p23
        try clear p230
        try clear p231
        try clear p232
        try clear p6
        try clear q2
        try clear q22
        try clear q229
        try clear q23
        try clear q230
        try clear q231
        try clear q232
        obtain ⟨ah, rfl, HA, HK4, a8, a9, HB⟩ := hrel
        cases gk with
        | zero => exact absurd HA.out (by simp [switchbacklaw18_Same.l2])
        | succ k4 =>
         have H := HA.out
         clear HA
         simp only [switchbacklaw18_Same.l2] at H
         by_cases c46 : ah < (l0_2.length : Int)
         ·rw [if_pos c46] at H
          have c46b0 : decide (ah < (l0_2.length : Int)) = true := decide_eq_true c46
          clear c46
          by_cases c47 : 0 ≤ ah
          ·rw [if_pos c47] at H
           have c47b0 : decide (0 ≤ ah) = true := decide_eq_true c47
           clear c47
           by_cases c48 : ah < (l1_2.length : Int)
           ·rw [if_pos c48] at H
            have c48b0 : decide (ah < (l1_2.length : Int)) = true := decide_eq_true c48
            clear c48
            by_cases c49 : (rd l0_2 ah) = (rd l1_2 ah)
            ·rw [if_pos c49] at H
             have c49b0 : ((rd l0_2 ah) == (rd l1_2 ah)) = true := beq_iff_eq.mpr c49
             have c49b1 : ((rd l0_2 ah) != (rd l1_2 ah)) = false := bne_eq_false_iff_eq.mpr c49
             clear c49
             have H' := uZ H
             clear H
             have hnb50 := ac.out
             have hnc50 := ad.out
             have hcz51_0 : wr.cell? ⟨aa, 0, none⟩ = some (.slice A0_0 l0_0.length c0_0) := (zC a8.out 0).trans rfl
             have hcz51_1 : wr.cell? ⟨aa, 1, none⟩ = some (.slice A0_1 l0_1.length c0_1) := (zC a8.out 1).trans rfl
             have hcz51_2 : wr.cell? ⟨aa, 2, none⟩ = some (.slice A0_2 l0_2.length c0_2) := (zC a8.out 2).trans rfl
             have hcz51_3 : wr.cell? ⟨aa, 3, none⟩ = some (.int .i64 a0_3) := (zC a8.out 3).trans rfl
             have hfz51_0 := zB a8.out 0
             have hfz51_1 := zB a8.out 1
             have hfz51_2 := zB a8.out 2
             have hfz51_3 := zB a8.out 3
             have p233 : 0 ≤ (ah : Int) := uA
             have q233 : ah < (l0_2.length : Int) := uA
             obtain ⟨ad233, e233, an⟩ := Kd.at_int HR0_2.out ah p233 q233
             cases e233
             replace an := (HB.out.cell (zF w _ an)).trans an
             replace p233 := eq_true p233
             replace q233 := eq_true q233
             have hcz52_0 : wr.cell? ⟨ab, 0, none⟩ = some (.slice A1_0 l1_0.length c1_0) := (zC a9.out 0).trans rfl
             have hcz52_1 : wr.cell? ⟨ab, 1, none⟩ = some (.slice A1_1 l1_1.length c1_1) := (zC a9.out 1).trans rfl
             have hcz52_2 : wr.cell? ⟨ab, 2, none⟩ = some (.slice A1_2 l1_2.length c1_2) := (zC a9.out 2).trans rfl
             have hcz52_3 : wr.cell? ⟨ab, 3, none⟩ = some (.int .i64 a1_3) := (zC a9.out 3).trans rfl
             have hfz52_0 := zB a9.out 0
             have hfz52_1 := zB a9.out 1
             have hfz52_2 := zB a9.out 2
             have hfz52_3 := zB a9.out 3
             have p234 : 0 ≤ (ah : Int) := uA
             have q234 : ah < (l1_2.length : Int) := uA
             obtain ⟨ad234, e234, ao⟩ := Kd.at_int HR1_2.out ah p234 q234
             cases e234
             replace ao := (HB.out.cell (zF w _ ao)).trans ao
             replace p234 := eq_true p234
             replace q234 := eq_true q234
             go_wp2
             repeat (go_quiet (fail); try go_wp2)
             go_roundg k4
             case measure => have := HJ2.out; have := HK2.out; have := HK3.out; have := HK4.out; omega
             case rel => exact ⟨(wrap64 (ah + 1)), (by first | rfl | (simp; done) | (simp [*]; done)), H', ⟨by have := HJ2.out; have := HK2.out; have := HK3.out; have := HK4.out; omega⟩, ⟨uK a8.out⟩, ⟨uK a9.out⟩, ⟨uD HB.out ae.out ai.out⟩⟩
            rw [if_neg c49] at H
            have c49b0 : ((rd l0_2 ah) == (rd l1_2 ah)) = false := beq_eq_false_iff_ne.mpr c49
            have c49b1 : ((rd l0_2 ah) != (rd l1_2 ah)) = true := bne_iff_ne.mpr c49
            obtain rfl := Option.some.inj H
            have hnb53 := ac.out
            have hnc53 := ad.out
            have hcz54_0 : wr.cell? ⟨aa, 0, none⟩ = some (.slice A0_0 l0_0.length c0_0) := (zC a8.out 0).trans rfl
            have hcz54_1 : wr.cell? ⟨aa, 1, none⟩ = some (.slice A0_1 l0_1.length c0_1) := (zC a8.out 1).trans rfl
            have hcz54_2 : wr.cell? ⟨aa, 2, none⟩ = some (.slice A0_2 l0_2.length c0_2) := (zC a8.out 2).trans rfl
            have hcz54_3 : wr.cell? ⟨aa, 3, none⟩ = some (.int .i64 a0_3) := (zC a8.out 3).trans rfl
            have hfz54_0 := zB a8.out 0
            have hfz54_1 := zB a8.out 1
            have hfz54_2 := zB a8.out 2
            have hfz54_3 := zB a8.out 3
            have p233 : 0 ≤ (ah : Int) := uA
            have q233 : ah < (l0_2.length : Int) := uA
            obtain ⟨ad233, e233, an⟩ := Kd.at_int HR0_2.out ah p233 q233
            cases e233
            replace an := (HB.out.cell (zF w _ an)).trans an
            replace p233 := eq_true p233
            replace q233 := eq_true q233
            have hcz55_0 : wr.cell? ⟨ab, 0, none⟩ = some (.slice A1_0 l1_0.length c1_0) := (zC a9.out 0).trans rfl
            have hcz55_1 : wr.cell? ⟨ab, 1, none⟩ = some (.slice A1_1 l1_1.length c1_1) := (zC a9.out 1).trans rfl
            have hcz55_2 : wr.cell? ⟨ab, 2, none⟩ = some (.slice A1_2 l1_2.length c1_2) := (zC a9.out 2).trans rfl
            have hcz55_3 : wr.cell? ⟨ab, 3, none⟩ = some (.int .i64 a1_3) := (zC a9.out 3).trans rfl
            have hfz55_0 := zB a9.out 0
            have hfz55_1 := zB a9.out 1
            have hfz55_2 := zB a9.out 2
            have hfz55_3 := zB a9.out 3
            have p234 : 0 ≤ (ah : Int) := uA
            have q234 : ah < (l1_2.length : Int) := uA
            obtain ⟨ad234, e234, ao⟩ := Kd.at_int HR1_2.out ah p234 q234
            cases e234
            replace ao := (HB.out.cell (zF w _ ao)).trans ao
            replace p234 := eq_true p234
            replace q234 := eq_true q234
            go_wp2
            repeat (go_quiet (fail); try go_wp2)
            go_ret
            exact ⟨by first | rfl | (simp [errW_none, errW_some] <;> rfl) | (simp [*, errW_none, errW_some] <;> rfl), by repeat (first | (with_reducible first | exact HB.out | apply below_alloc | apply zA | apply below_drew1 | refine zD ?_ ae.out | refine zD ?_ ai.out) | exact HB.out)⟩
           rw [if_neg c48] at H
           exact absurd H (by simp)
          rw [if_neg c47] at H
          exact absurd H (by simp)
         rw [if_neg c46] at H
         have c46b0 : decide (ah < (l0_2.length : Int)) = false := decide_eq_false c46
         clear c46
         obtain rfl := Option.some.inj H
         have hnb56 := ac.out
         have hnc56 := ad.out
         have hcz57_0 : wr.cell? ⟨aa, 0, none⟩ = some (.slice A0_0 l0_0.length c0_0) := (zC a8.out 0).trans rfl
         have hcz57_1 : wr.cell? ⟨aa, 1, none⟩ = some (.slice A0_1 l0_1.length c0_1) := (zC a8.out 1).trans rfl
         have hcz57_2 : wr.cell? ⟨aa, 2, none⟩ = some (.slice A0_2 l0_2.length c0_2) := (zC a8.out 2).trans rfl
         have hcz57_3 : wr.cell? ⟨aa, 3, none⟩ = some (.int .i64 a0_3) := (zC a8.out 3).trans rfl
         have hfz57_0 := zB a8.out 0
         have hfz57_1 := zB a8.out 1
         have hfz57_2 := zB a8.out 2
         have hfz57_3 := zB a8.out 3
         go_wp2
         repeat (go_quiet (fail); try go_wp2)
         go_ret
         exact ⟨by first | rfl | (simp [errW_none, errW_some] <;> rfl) | (simp [*, errW_none, errW_some] <;> rfl), by repeat (first | (with_reducible first | exact HB.out | apply below_alloc | apply zA | apply below_drew1 | refine zD ?_ ae.out | refine zD ?_ ai.out) | exact HB.out)⟩

end Go.Proofs.YtlhgfhmdhmgmpaaGreatDoor.PZ3

-- Written by gp.py for this claim.
namespace Go.Proofs.YtlhgfhmdhmgmpaaGreatDoor.PZ3
open Go.RowKit Go.Proofs.YtlhgfhmdhmgmpaaGreatDoorW.PrintWords Go.Proofs.YtlhgfhmdhmgmpaaGreatDoorW.PrintLast Go.Proofs.YtlhgfhmdhmgmpaaGreatDoorW.PrintMore
attribute [local go_sem] max2_int min2_int max_two min_two max_three min_three max_four min_four   -- for this text's walks alone
set_option linter.unusedVariables false
set_option linter.unusedSimpArgs false

namespace q_switchbacklaw22_ListShows
theorem uZ {p : Prop} (h : p) : Aside0 p := ⟨h⟩
theorem uR {p q : Prop} (h : p) (g : p → q := by intro h; (with_reducible repeat (first | apply Kd.R_alloc | apply Kd.R_drewN | apply Kd.R_drew)); exact h) : q := g h
theorem uK {p q : Prop} (h : p) (g : p → q := by intro h; (with_reducible repeat (first | apply blk_drewN | apply blk_drew | apply blk_alloc)); exact h) : q := g h
theorem uB {p q : Prop} (h : p) (g : p → q := by intro h; repeat (first | (with_reducible first | exact h | apply below_alloc | apply pw_below_drewN | apply below_drew1) | exact h)) : q := g h
theorem uC {p q s : Prop} (h : p) (j : s) (g : p → s → q := by intro h j; repeat (first | (with_reducible first | exact h | apply below_alloc | apply pw_below_drewN | apply below_drew1 | refine below_set ?_ j) | exact h)) : q := g h j
theorem uD {p q s r : Prop} (h : p) (j : s) (k : r) (g : p → s → r → q := by intro h j k; repeat (first | (with_reducible first | exact h | apply below_alloc | apply pw_below_drewN | apply below_drew1 | refine below_set ?_ j | refine below_set ?_ k) | exact h)) : q := g h j k
theorem zA : type_of% @Kd.R_alloc := @Kd.R_alloc
theorem zB : type_of% @Kd.R_drewN := @Kd.R_drewN
theorem zC : type_of% @Kd.R_drew := @Kd.R_drew
theorem zD : type_of% @Kd.R_far := @Kd.R_far
theorem zE : type_of% @Kd.R_below := @Kd.R_below
theorem zF : type_of% @Kd.R_mono := @Kd.R_mono
theorem zG : type_of% @Kd.R_types := @Kd.R_types
theorem zH : type_of% @Kd.R_lower := @Kd.R_lower
theorem zI : type_of% @Kd.R_slice := @Kd.R_slice
theorem zJ : type_of% @Kd.R_reads' := @Kd.R_reads'
theorem zK : type_of% @Kd.C_alloc := @Kd.C_alloc
theorem zL : type_of% @Kd.C_drewN := @Kd.C_drewN
theorem zM : type_of% @Kd.C_drew := @Kd.C_drew
theorem zN : type_of% @Kd.C_below := @Kd.C_below
theorem zO : type_of% @blk_drewN := @blk_drewN
theorem zP : type_of% @blk_drew := @blk_drew
theorem zQ : type_of% @blk_alloc := @blk_alloc
theorem zR : type_of% @pw_below_drewN := @pw_below_drewN
theorem zS : type_of% @below_alloc := @below_alloc
theorem zT : type_of% @below_drew1 := @below_drew1
theorem zU : type_of% @blk_frozen := @blk_frozen
theorem zV : type_of% @blk_cell := @blk_cell
theorem zW : type_of% @blk_put := @blk_put
theorem zX : type_of% @blk_far := @blk_far
theorem zY : type_of% @blk_below := @blk_below
theorem zZ : type_of% @below_set := @below_set
theorem yA : type_of% @below_size := @below_size
theorem yB : type_of% @below_step := @below_step
theorem yC : type_of% @List.map_toArray := @List.map_toArray
theorem yD : type_of% @List.length_drop := @List.length_drop
theorem yE : type_of% @List.length_take := @List.length_take
end q_switchbacklaw22_ListShows
open q_switchbacklaw22_ListShows

/-! ### switchbacklaw22_ListShows: function 5 -/
def switchbacklaw22_ListShows.f (k : Nat) (l0_0 : List Int) (l0_1 : List Int) (l0_2 : List Int) (a0_3 : Int) : Option (Bool) := (switchbacklaw18_Copy.f l0_0 l0_1 l0_2 a0_3).bind fun bt236 => ((list_Show.f bt236.1 bt236.2.1 bt236.2.2.1 bt236.2.2.2).bind fun t247 => ((switchbacklaw22_live.f).bind fun t248 => (if t248 = true then ((switchbackref22_Show.f l0_0 l0_1 l0_2 a0_3).bind fun t249 => (if t247.toList = t249.toList then ((switchbacklaw18_Same.f k bt236.1 bt236.2.1 bt236.2.2.1 bt236.2.2.2 l0_0 l0_1 l0_2 a0_3).bind fun t250 => (some t250)) else (some false))) else (some false))))
theorem switchbacklaw22_ListShows.mono : ∀ a0 a1 a2 a3 k, LeO (switchbacklaw22_ListShows.f k a0 a1 a2 a3) (switchbacklaw22_ListShows.f (k + 1) a0 a1 a2 a3) := by
  intro a0 a1 a2 a3 k
  unfold switchbacklaw22_ListShows.f
  repeat' first
      | (with_reducible exact switchbacklaw18_Same.mono _ _ _ _ _ _ _ _ _)
      | (with_reducible exact LeO.refl _)
      | (with_reducible exact LeO.none _)
      | (with_reducible refine LeO.ite ?_ ?_)
      | (with_reducible refine LeO.bind ?_ (fun _ => ?_))
      | exact switchbacklaw18_Same.mono _ _ _ _ _ _ _ _ _
      | exact LeO.none _
      | refine LeO.ite ?_ ?_
      | refine LeO.bind ?_ (fun _ => ?_)
set_option maxHeartbeats 8000000 in
set_option maxRecDepth 100000 in
theorem switchbacklaw22_ListShows.calls (k : Nat) (A0_0 : Option Addr) (c0_0 : Nat) (l0_0 : List Int) (A0_1 : Option Addr) (c0_1 : Nat) (l0_1 : List Int) (A0_2 : Option Addr) (c0_2 : Nat) (l0_2 : List Int) (a0_3 : Int) (r : Bool) (w : World) (hr0_0 : Kd.C (Kd.int .u32) w A0_0 l0_0.length l0_0) (hc0_0 : l0_0.length ≤ c0_0) (hr0_1 : Kd.C (Kd.int .i64) w A0_1 l0_1.length l0_1) (hc0_1 : l0_1.length ≤ c0_1) (hr0_2 : Kd.C (Kd.int .u32) w A0_2 l0_2.length l0_2) (hc0_2 : l0_2.length ≤ c0_2) (hLaid_ : Aside0 (SLaid w)) (h : switchbacklaw22_ListShows.f k l0_0 l0_1 l0_2 a0_3 = some r) :
    Calls Tryz.prog 5 #[.agg #[.slice A0_0 l0_0.length c0_0, .slice A0_1 l0_1.length c0_1, .slice A0_2 l0_2.length c0_2, .int .i64 a0_3]] w fun e w' => e = .returned (.bool r) ∧ Below w.heap.size w w' := by
 have hu37 := Tryz.underlying37
 have HR0_0 := uZ hr0_0
 have HC0_0 := uZ hc0_0
 clear hr0_0 hc0_0
 have HR0_1 := uZ hr0_1
 have HC0_1 := uZ hc0_1
 clear hr0_1 hc0_1
 have HR0_2 := uZ hr0_2
 have HC0_2 := uZ hc0_2
 clear hr0_2 hc0_2
 have HB := uZ (Below.refl w.heap.size w)
 have H : ((switchbacklaw18_Copy.f l0_0 l0_1 l0_2 a0_3).bind fun bt236 => ((list_Show.f bt236.1 bt236.2.1 bt236.2.2.1 bt236.2.2.2).bind fun al => ((switchbacklaw22_live.f).bind fun t248 => (if t248 = true then ((switchbackref22_Show.f l0_0 l0_1 l0_2 a0_3).bind fun aj => (if al.toList = aj.toList then ((switchbacklaw18_Same.f k bt236.1 bt236.2.1 bt236.2.2.1 bt236.2.2.2 l0_0 l0_1 l0_2 a0_3).bind fun aq => (some aq)) else (some false))) else (some false))))) = some r := h
 clear h
 replace H := Option.bind_eq_some_iff.mp H
 obtain ⟨⟨ac, ad, ae, ag⟩, A20, H⟩ := H
 replace H : ((list_Show.f ac ad ae ag).bind fun al => ((switchbacklaw22_live.f).bind fun t248 => (if t248 = true then ((switchbackref22_Show.f l0_0 l0_1 l0_2 a0_3).bind fun aj => (if al.toList = aj.toList then ((switchbacklaw18_Same.f k ac ad ae ag l0_0 l0_1 l0_2 a0_3).bind fun aq => (some aq)) else (some false))) else (some false)))) = some r := H
 have A2 := uZ A20
 clear A20
 replace H := Option.bind_eq_some_iff.mp H
 obtain ⟨al, A30, H⟩ := H
 replace H : ((switchbacklaw22_live.f).bind fun t248 => (if t248 = true then ((switchbackref22_Show.f l0_0 l0_1 l0_2 a0_3).bind fun aj => (if al.toList = aj.toList then ((switchbacklaw18_Same.f k ac ad ae ag l0_0 l0_1 l0_2 a0_3).bind fun aq => (some aq)) else (some false))) else (some false))) = some r := H
 have A3 := uZ A30
 clear A30
 replace H := Option.bind_eq_some_iff.mp H
 obtain ⟨t248, A40, H⟩ := H
 replace H : (if t248 = true then ((switchbackref22_Show.f l0_0 l0_1 l0_2 a0_3).bind fun aj => (if al.toList = aj.toList then ((switchbacklaw18_Same.f k ac ad ae ag l0_0 l0_1 l0_2 a0_3).bind fun aq => (some aq)) else (some false))) else (some false)) = some r := H
 have A4 := uZ A40
 clear A40
 by_cases c5 : t248 = true
 ·subst c5
  have H1 : ((switchbackref22_Show.f l0_0 l0_1 l0_2 a0_3).bind fun aj => (if al.toList = aj.toList then ((switchbacklaw18_Same.f k ac ad ae ag l0_0 l0_1 l0_2 a0_3).bind fun aq => (some aq)) else (some false))) = some r := by rw [if_pos rfl] at H; exact H
  clear H
  have H := H1
  clear H1
  replace H := Option.bind_eq_some_iff.mp H
  obtain ⟨aj, A60, H⟩ := H
  replace H : (if al.toList = aj.toList then ((switchbacklaw18_Same.f k ac ad ae ag l0_0 l0_1 l0_2 a0_3).bind fun aq => (some aq)) else (some false)) = some r := H
  have A6 := uZ A60
  clear A60
  by_cases c7 : al.toList = aj.toList
  ·rw [if_pos c7] at H
   have c7b0 : (al.toList == aj.toList) = true := beq_iff_eq.mpr c7
   have c7b1 : (al.toList != aj.toList) = false := bne_eq_false_iff_eq.mpr c7
   clear c7
   replace H := Option.bind_eq_some_iff.mp H
   obtain ⟨aq, A80, H⟩ := H
   replace H : (some aq) = some r := H
   have A8 := uZ A80
   clear A80
   obtain rfl := Option.some.inj H
   go_enter Tryz.func5, Tryz.ntmps5
   go_wp2_with (first | ((with_reducible refine gate_dst (N := 1) rfl ?_); refine box_event ?hg (N := 1) ?hd (cs := #[.slice A0_0 l0_0.length c0_0, .slice A0_1 l0_1.length c0_1, .slice A0_2 l0_2.length c0_2, .int .i64 a0_3]) (t := 37) ?hr ?_; (case hd => rfl); (case hg => rfl); (case hr => first | (go_simp; done) | (go_simp; rfl)); intro a7 hg w9 hbox hb; have n0_ := uZ (yB (uB HB.out) hb); have n1_ := uZ (hbox); have n2_ := uZ ((by rw [hg]; exact (yA (uB HB.out)) : w.heap.size ≤ a7)); have n3_ := uZ ((by rw [hg]; exact (yA (uB HB.out)) : w.heap.size ≤ a7)); clear HB; have HB := n0_; have a5 := n1_; have GW235 := n2_; have af := n3_; clear n0_ n1_ n2_ n3_; clear hb hbox hg; have hcz10_0 : w9.cell? ⟨a7, 0, none⟩ = some (.slice A0_0 l0_0.length c0_0) := (zV a5.out 0).trans rfl; have hcz10_1 : w9.cell? ⟨a7, 1, none⟩ = some (.slice A0_1 l0_1.length c0_1) := (zV a5.out 1).trans rfl; have hcz10_2 : w9.cell? ⟨a7, 2, none⟩ = some (.slice A0_2 l0_2.length c0_2) := (zV a5.out 2).trans rfl; have hcz10_3 : w9.cell? ⟨a7, 3, none⟩ = some (.int .i64 a0_3) := (zV a5.out 3).trans rfl; have hfz10_0 := zU a5.out 0; have hfz10_1 := zU a5.out 1; have hfz10_2 := zU a5.out 2; have hfz10_3 := zU a5.out 3) | ((with_reducible refine gate_callee (f := 15) rfl ?_); refine goesL_ (some 6) rfl rfl Tryz.func15 (by kernel_rfl) rfl #[.agg #[.slice A0_0 l0_0.length c0_0, .slice A0_1 l0_1.length c0_1, .slice A0_2 l0_2.length c0_2, .int .i64 a0_3]] rfl (by (try simp only [yC, List.map_cons, List.map_nil]); first | done | rfl | (simp only [yD, yE]; rfl)) ?_; (with_reducible refine (switchbacklaw18_Copy.calls _ _ l0_0 _ _ l0_1 _ _ l0_2 a0_3 ac ad ae ag _ ?side1 ?side2 ?side3 ?side4 ?side5 ?side6 A2.out).mono ?_); (case side1 => repeat (first | exact (zN HR0_0.out HB.out) | (with_reducible refine zK ?_ _) | (with_reducible refine zL ?_ _) | (with_reducible refine zM ?_))); (case side2 => exact HC0_0.out); (case side3 => repeat (first | exact (zN HR0_1.out HB.out) | (with_reducible refine zK ?_ _) | (with_reducible refine zL ?_ _) | (with_reducible refine zM ?_))); (case side4 => exact HC0_1.out); (case side5 => repeat (first | exact (zN HR0_2.out HB.out) | (with_reducible refine zK ?_ _) | (with_reducible refine zL ?_ _) | (with_reducible refine zM ?_))); (case side6 => exact HC0_2.out); rintro e w11 ⟨v237, v240, v243, rfl, ho0, ho1, ho2, hb⟩; refine ⟨_, rfl, ?_⟩; have n0_ := uZ (zH ho0 (yA (uC HB.out af.out))); have n1_ := uZ (zH ho1 (yA (uC HB.out af.out))); have n2_ := uZ (zH ho2 (yA (uC HB.out af.out))); have n3_ := uZ (zY (g := a7) (o := .cells #[.slice A0_0 l0_0.length c0_0, .slice A0_1 l0_1.length c0_1, .slice A0_2 l0_2.length c0_2, .int .i64 a0_3] 37 (0, 0)) (uK a5.out) hb); have n4_ := uZ (yB (uC HB.out af.out) hb); clear a5; clear HB; have a8 := n0_; have a9 := n1_; have aa := n2_; have a5 := n3_; have HB := n4_; clear n0_ n1_ n2_ n3_ n4_; (try clear hb); (try clear hb2); (try clear hk); (try clear hi); (try clear ho0); (try clear ho1); (try clear ho2)) | ((with_reducible refine gate_dst (N := 3) rfl ?_); refine box_event ?hg (N := 3) ?hd (cs := #[.slice none 0 0, .slice none 0 0, .slice none 0 0, .int .i64 0]) (t := 37) ?hr ?_; (case hd => rfl); (case hg => rfl); (case hr => first | (go_simp; done) | (go_simp; rfl)); intro a4 hg w12 hbox hb; have n0_ := uZ (zE (uR a8.out) hb); have n1_ := uZ (zE (uR a9.out) hb); have n2_ := uZ (zE (uR aa.out) hb); have n3_ := uZ (zY (g := a7) (o := .cells #[.slice A0_0 l0_0.length c0_0, .slice A0_1 l0_1.length c0_1, .slice A0_2 l0_2.length c0_2, .int .i64 a0_3] 37 (0, 0)) (uK a5.out) hb); have n4_ := uZ (yB (uC HB.out af.out) hb); have n5_ := uZ (hbox); have n6_ := uZ ((by rw [hg]; exact (yA (uC HB.out af.out)) : w.heap.size ≤ a4)); have n7_ := uZ ((by rw [hg]; exact (yA (uC HB.out af.out)) : w.heap.size ≤ a4)); have n8_ := uZ ((by rw [hg]; exact Nat.ne_of_lt (blk_lt (g := a7) (o := .cells #[.slice A0_0 l0_0.length c0_0, .slice A0_1 l0_1.length c0_1, .slice A0_2 l0_2.length c0_2, .int .i64 a0_3] 37 (0, 0)) (uK a5.out)) : a7 ≠ a4)); have n9_ := uZ ((by rw [hg]; exact Nat.ne_of_gt (blk_lt (g := a7) (o := .cells #[.slice A0_0 l0_0.length c0_0, .slice A0_1 l0_1.length c0_1, .slice A0_2 l0_2.length c0_2, .int .i64 a0_3] 37 (0, 0)) (uK a5.out)) : a4 ≠ a7)); clear a8; clear a9; clear aa; clear a5; clear HB; have a8 := n0_; have a9 := n1_; have aa := n2_; have a5 := n3_; have HB := n4_; have a6 := n5_; have GW246 := n6_; have ah := n7_; have ab := n8_; have ai := n9_; clear n0_ n1_ n2_ n3_ n4_ n5_ n6_ n7_ n8_ n9_; clear hb hbox hg; obtain ⟨am, ak, eo13⟩ := zI a8.out; subst eo13; have hnb14 := ai.out; have hnc14 := ab.out; have hcz15_0 : w12.cell? ⟨a4, 0, none⟩ = some (.slice none 0 0) := (zV a6.out 0).trans rfl; have hcz15_1 : w12.cell? ⟨a4, 1, none⟩ = some (.slice none 0 0) := (zV a6.out 1).trans rfl; have hcz15_2 : w12.cell? ⟨a4, 2, none⟩ = some (.slice none 0 0) := (zV a6.out 2).trans rfl; have hcz15_3 : w12.cell? ⟨a4, 3, none⟩ = some (.int .i64 0) := (zV a6.out 3).trans rfl; have hfz15_0 := zU a6.out 0; have hfz15_1 := zU a6.out 1; have hfz15_2 := zU a6.out 2; have hfz15_3 := zU a6.out 3; obtain ⟨ar, an, eo16⟩ := zI a9.out; subst eo16; obtain ⟨au, ao, eo17⟩ := zI aa.out; subst eo17) | ((with_reducible refine gate_callee (f := 16) rfl ?_); refine goesL_ (some 8) rfl rfl Tryz.func16 (by kernel_rfl) rfl #[.agg #[.slice am ac.length ak, .slice ar ad.length an, .slice au ae.length ao, .int .i64 ag]] rfl (by (try simp only [yC, List.map_cons, List.map_nil]); first | done | rfl | (simp only [yD, yE]; rfl)) ?_; (with_reducible refine (list_Show.calls _ _ ac _ _ ad _ _ ae ag al _ ?side1 ?side2 ?side3 ?side4 ?side5 ?side6 (uZ (hLaid_.out.below (by repeat (first | (with_reducible first | exact HB.out | apply zS | apply zR | apply zT) | refine zZ ?_ (Aside0.out (by assumption)) | exact HB.out)))) A3.out).mono ?_); (case side1 => refine (zJ (e := 47) (base := w.heap.size) (ok := fun k_ => some k_ ≠ (.slice au ae.length ao : Value).ownBlock) (n := ac.length) (c := ak) ?_).2.2; exact (by (with_reducible repeat (first | apply zA | apply zB | apply zC)); exact (zF (zD (p := ⟨a4, 3, none⟩) (zD (p := ⟨a4, 2, none⟩) (zD (p := ⟨a4, 1, none⟩) (zD (p := ⟨a4, 0, none⟩) (zG a8.out a6.out (by decide)) (fun _ hk => hk.2) (.slice am ac.length ak)) (fun _ hk => hk.2) (.slice ar ad.length an)) (fun _ hk => hk.2) (.slice au ae.length ao)) (fun _ hk => hk.2) (.int .i64 ag)) (fun _ h_ => h_.1)))); (case side2 => exact (zJ a8.out).2.1); (case side3 => refine (zJ (e := 3) (base := w.heap.size) (ok := fun k_ => True) (n := ad.length) (c := an) ?_).2.2; exact (by (with_reducible repeat (first | apply zA | apply zB | apply zC)); exact (zF (zD (p := ⟨a4, 3, none⟩) (zD (p := ⟨a4, 2, none⟩) (zD (p := ⟨a4, 1, none⟩) (zD (p := ⟨a4, 0, none⟩) (zG a9.out a6.out (by decide)) (fun _ hk => hk.2) (.slice am ac.length ak)) (fun _ hk => hk.2) (.slice ar ad.length an)) (fun _ hk => hk.2) (.slice au ae.length ao)) (fun _ hk => hk.2) (.int .i64 ag)) (fun _ h_ => h_.1)))); (case side4 => exact (zJ a9.out).2.1); (case side5 => refine (zJ (e := 47) (base := w.heap.size) (ok := fun k_ => some k_ ≠ (.slice am ac.length ak : Value).ownBlock) (n := ae.length) (c := ao) ?_).2.2; exact (by (with_reducible repeat (first | apply zA | apply zB | apply zC)); exact (zF (zD (p := ⟨a4, 3, none⟩) (zD (p := ⟨a4, 2, none⟩) (zD (p := ⟨a4, 1, none⟩) (zD (p := ⟨a4, 0, none⟩) (zG aa.out a6.out (by decide)) (fun _ hk => hk.2) (.slice am ac.length ak)) (fun _ hk => hk.2) (.slice ar ad.length an)) (fun _ hk => hk.2) (.slice au ae.length ao)) (fun _ hk => hk.2) (.int .i64 ag)) (fun _ h_ => h_.1)))); (case side6 => exact (zJ aa.out).2.1); rintro e w18 ⟨rfl, hb⟩; refine ⟨_, rfl, ?_⟩; have n0_ := uZ (zE (by (with_reducible repeat (first | apply zA | apply zB | apply zC)); exact (zF (zD (p := ⟨a4, 3, none⟩) (zD (p := ⟨a4, 2, none⟩) (zD (p := ⟨a4, 1, none⟩) (zD (p := ⟨a4, 0, none⟩) (zG a8.out a6.out (by decide)) (fun _ hk => hk.2) (.slice am ac.length ak)) (fun _ hk => hk.2) (.slice ar ad.length an)) (fun _ hk => hk.2) (.slice au ae.length ao)) (fun _ hk => hk.2) (.int .i64 ag)) (fun _ h_ => h_.1))) hb); have n1_ := uZ (zE (by (with_reducible repeat (first | apply zA | apply zB | apply zC)); exact (zF (zD (p := ⟨a4, 3, none⟩) (zD (p := ⟨a4, 2, none⟩) (zD (p := ⟨a4, 1, none⟩) (zD (p := ⟨a4, 0, none⟩) (zG a9.out a6.out (by decide)) (fun _ hk => hk.2) (.slice am ac.length ak)) (fun _ hk => hk.2) (.slice ar ad.length an)) (fun _ hk => hk.2) (.slice au ae.length ao)) (fun _ hk => hk.2) (.int .i64 ag)) (fun _ h_ => h_.1))) hb); have n2_ := uZ (zE (by (with_reducible repeat (first | apply zA | apply zB | apply zC)); exact (zF (zD (p := ⟨a4, 3, none⟩) (zD (p := ⟨a4, 2, none⟩) (zD (p := ⟨a4, 1, none⟩) (zD (p := ⟨a4, 0, none⟩) (zG aa.out a6.out (by decide)) (fun _ hk => hk.2) (.slice am ac.length ak)) (fun _ hk => hk.2) (.slice ar ad.length an)) (fun _ hk => hk.2) (.slice au ae.length ao)) (fun _ hk => hk.2) (.int .i64 ag)) (fun _ h_ => h_.1))) hb); have n3_ := uZ (zY (g := a7) (o := .cells #[.slice A0_0 l0_0.length c0_0, .slice A0_1 l0_1.length c0_1, .slice A0_2 l0_2.length c0_2, .int .i64 a0_3] 37 (0, 0)) (by (with_reducible repeat (first | apply zO | apply zP | apply zQ)); refine zX ?_ ab.out _; (with_reducible repeat (first | apply zO | apply zP | apply zQ)); refine zX ?_ ab.out _; (with_reducible repeat (first | apply zO | apply zP | apply zQ)); refine zX ?_ ab.out _; (with_reducible repeat (first | apply zO | apply zP | apply zQ)); refine zX ?_ ab.out _; (with_reducible repeat (first | apply zO | apply zP | apply zQ)); exact a5.out) hb); have n4_ := uZ (zY (g := a4) (o := .cells #[.slice am ac.length ak, .slice ar ad.length an, .slice au ae.length ao, .int .i64 ag] 37 (0, 0)) (by (with_reducible repeat (first | apply zO | apply zP | apply zQ)); refine zW (cs := #[.slice am ac.length ak, .slice ar ad.length an, .slice au ae.length ao, .int .i64 0]) ?_ 3 _ rfl; (with_reducible repeat (first | apply zO | apply zP | apply zQ)); refine zW (cs := #[.slice am ac.length ak, .slice ar ad.length an, .slice none 0 0, .int .i64 0]) ?_ 2 _ rfl; (with_reducible repeat (first | apply zO | apply zP | apply zQ)); refine zW (cs := #[.slice am ac.length ak, .slice none 0 0, .slice none 0 0, .int .i64 0]) ?_ 1 _ rfl; (with_reducible repeat (first | apply zO | apply zP | apply zQ)); refine zW (cs := #[.slice none 0 0, .slice none 0 0, .slice none 0 0, .int .i64 0]) ?_ 0 _ rfl; (with_reducible repeat (first | apply zO | apply zP | apply zQ)); exact a6.out) hb); have n5_ := uZ (yB (uD HB.out af.out ah.out) hb); clear a8; clear a9; clear aa; clear a5; clear a6; clear HB; have a8 := n0_; have a9 := n1_; have aa := n2_; have a5 := n3_; have a6 := n4_; have HB := n5_; clear n0_ n1_ n2_ n3_ n4_ n5_; (try clear hb); (try clear hb2); (try clear hk); (try clear hi)) | ((with_reducible refine gate_callee (f := 10) rfl ?_); refine goesL_ (some 9) rfl rfl Tryz.func10 (by kernel_rfl) rfl #[] rfl (by (try simp only [yC, List.map_cons, List.map_nil]); first | done | rfl | (simp only [yD, yE]; rfl)) ?_; (with_reducible refine (switchbacklaw22_live.calls  true _ (uZ (hLaid_.out.below (by repeat (first | (with_reducible first | exact HB.out | apply zS | apply zR | apply zT) | refine zZ ?_ (Aside0.out (by assumption)) | exact HB.out)))) A4.out).mono ?_); rintro e w19 ⟨rfl, hb⟩; refine ⟨_, rfl, ?_⟩; have n0_ := uZ (zE (uR a8.out) hb); have n1_ := uZ (zE (uR a9.out) hb); have n2_ := uZ (zE (uR aa.out) hb); have n3_ := uZ (zY (g := a7) (o := .cells #[.slice A0_0 l0_0.length c0_0, .slice A0_1 l0_1.length c0_1, .slice A0_2 l0_2.length c0_2, .int .i64 a0_3] 37 (0, 0)) (uK a5.out) hb); have n4_ := uZ (zY (g := a4) (o := .cells #[.slice am ac.length ak, .slice ar ad.length an, .slice au ae.length ao, .int .i64 ag] 37 (0, 0)) (uK a6.out) hb); have n5_ := uZ (yB (uD HB.out af.out ah.out) hb); clear a8; clear a9; clear aa; clear a5; clear a6; clear HB; have a8 := n0_; have a9 := n1_; have aa := n2_; have a5 := n3_; have a6 := n4_; have HB := n5_; clear n0_ n1_ n2_ n3_ n4_ n5_; (try clear hb); (try clear hb2); (try clear hk); (try clear hi); have hcz20_0 : w19.cell? ⟨a7, 0, none⟩ = some (.slice A0_0 l0_0.length c0_0) := (zV a5.out 0).trans rfl; have hcz20_1 : w19.cell? ⟨a7, 1, none⟩ = some (.slice A0_1 l0_1.length c0_1) := (zV a5.out 1).trans rfl; have hcz20_2 : w19.cell? ⟨a7, 2, none⟩ = some (.slice A0_2 l0_2.length c0_2) := (zV a5.out 2).trans rfl; have hcz20_3 : w19.cell? ⟨a7, 3, none⟩ = some (.int .i64 a0_3) := (zV a5.out 3).trans rfl; have hfz20_0 := zU a5.out 0; have hfz20_1 := zU a5.out 1; have hfz20_2 := zU a5.out 2; have hfz20_3 := zU a5.out 3) | (go_at_call 17; (with_reducible refine (switchbackref22_Show.calls _ _ l0_0 _ _ l0_1 _ _ l0_2 a0_3 aj _ ?side1 ?side2 ?side3 ?side4 ?side5 ?side6 A6.out).mono ?_); (case side1 => repeat (first | exact (zN HR0_0.out HB.out) | (with_reducible refine zK ?_ _) | (with_reducible refine zL ?_ _) | (with_reducible refine zM ?_))); (case side2 => exact HC0_0.out); (case side3 => repeat (first | exact (zN HR0_1.out HB.out) | (with_reducible refine zK ?_ _) | (with_reducible refine zL ?_ _) | (with_reducible refine zM ?_))); (case side4 => exact HC0_1.out); (case side5 => repeat (first | exact (zN HR0_2.out HB.out) | (with_reducible refine zK ?_ _) | (with_reducible refine zL ?_ _) | (with_reducible refine zM ?_))); (case side6 => exact HC0_2.out); rintro e w21 ⟨rfl, hb⟩; have n0_ := uZ (zE (uR a8.out) hb); have n1_ := uZ (zE (uR a9.out) hb); have n2_ := uZ (zE (uR aa.out) hb); have n3_ := uZ (zY (g := a7) (o := .cells #[.slice A0_0 l0_0.length c0_0, .slice A0_1 l0_1.length c0_1, .slice A0_2 l0_2.length c0_2, .int .i64 a0_3] 37 (0, 0)) (uK a5.out) hb); have n4_ := uZ (zY (g := a4) (o := .cells #[.slice am ac.length ak, .slice ar ad.length an, .slice au ae.length ao, .int .i64 ag] 37 (0, 0)) (uK a6.out) hb); have n5_ := uZ (yB (uD HB.out af.out ah.out) hb); clear a8; clear a9; clear aa; clear a5; clear a6; clear HB; have a8 := n0_; have a9 := n1_; have aa := n2_; have a5 := n3_; have a6 := n4_; have HB := n5_; clear n0_ n1_ n2_ n3_ n4_ n5_; (try clear hb); (try clear hb2); (try clear hk); (try clear hi); have hcz22_0 : w21.cell? ⟨a4, 0, none⟩ = some (.slice am ac.length ak) := (zV a6.out 0).trans rfl; have hcz22_1 : w21.cell? ⟨a4, 1, none⟩ = some (.slice ar ad.length an) := (zV a6.out 1).trans rfl; have hcz22_2 : w21.cell? ⟨a4, 2, none⟩ = some (.slice au ae.length ao) := (zV a6.out 2).trans rfl; have hcz22_3 : w21.cell? ⟨a4, 3, none⟩ = some (.int .i64 ag) := (zV a6.out 3).trans rfl; have hfz22_0 := zU a6.out 0; have hfz22_1 := zU a6.out 1; have hfz22_2 := zU a6.out 2; have hfz22_3 := zU a6.out 3; have hcz23_0 : w21.cell? ⟨a7, 0, none⟩ = some (.slice A0_0 l0_0.length c0_0) := (zV a5.out 0).trans rfl; have hcz23_1 : w21.cell? ⟨a7, 1, none⟩ = some (.slice A0_1 l0_1.length c0_1) := (zV a5.out 1).trans rfl; have hcz23_2 : w21.cell? ⟨a7, 2, none⟩ = some (.slice A0_2 l0_2.length c0_2) := (zV a5.out 2).trans rfl; have hcz23_3 : w21.cell? ⟨a7, 3, none⟩ = some (.int .i64 a0_3) := (zV a5.out 3).trans rfl; have hfz23_0 := zU a5.out 0; have hfz23_1 := zU a5.out 1; have hfz23_2 := zU a5.out 2; have hfz23_3 := zU a5.out 3) | (go_at_call 18; (with_reducible refine (switchbacklaw18_Same.calls k _ _ ac _ _ ad _ _ ae ag _ _ l0_0 _ _ l0_1 _ _ l0_2 a0_3 aq _ ?side1 ?side2 ?side3 ?side4 ?side5 ?side6 ?side7 ?side8 ?side9 ?side10 ?side11 ?side12 A8.out).mono ?_); (case side1 => repeat (first | exact (zJ a8.out).2.2 | (with_reducible refine zK ?_ _) | (with_reducible refine zL ?_ _) | (with_reducible refine zM ?_))); (case side2 => exact (zJ a8.out).2.1); (case side3 => repeat (first | exact (zJ a9.out).2.2 | (with_reducible refine zK ?_ _) | (with_reducible refine zL ?_ _) | (with_reducible refine zM ?_))); (case side4 => exact (zJ a9.out).2.1); (case side5 => repeat (first | exact (zJ aa.out).2.2 | (with_reducible refine zK ?_ _) | (with_reducible refine zL ?_ _) | (with_reducible refine zM ?_))); (case side6 => exact (zJ aa.out).2.1); (case side7 => repeat (first | exact (zN HR0_0.out HB.out) | (with_reducible refine zK ?_ _) | (with_reducible refine zL ?_ _) | (with_reducible refine zM ?_))); (case side8 => exact HC0_0.out); (case side9 => repeat (first | exact (zN HR0_1.out HB.out) | (with_reducible refine zK ?_ _) | (with_reducible refine zL ?_ _) | (with_reducible refine zM ?_))); (case side10 => exact HC0_1.out); (case side11 => repeat (first | exact (zN HR0_2.out HB.out) | (with_reducible refine zK ?_ _) | (with_reducible refine zL ?_ _) | (with_reducible refine zM ?_))); (case side12 => exact HC0_2.out); rintro e w24 ⟨rfl, hb⟩; have n0_ := uZ (zE (uR a8.out) hb); have n1_ := uZ (zE (uR a9.out) hb); have n2_ := uZ (zE (uR aa.out) hb); have n3_ := uZ (zY (g := a7) (o := .cells #[.slice A0_0 l0_0.length c0_0, .slice A0_1 l0_1.length c0_1, .slice A0_2 l0_2.length c0_2, .int .i64 a0_3] 37 (0, 0)) (uK a5.out) hb); have n4_ := uZ (zY (g := a4) (o := .cells #[.slice am ac.length ak, .slice ar ad.length an, .slice au ae.length ao, .int .i64 ag] 37 (0, 0)) (uK a6.out) hb); have n5_ := uZ (yB (uD HB.out af.out ah.out) hb); clear a8; clear a9; clear aa; clear a5; clear a6; clear HB; have a8 := n0_; have a9 := n1_; have aa := n2_; have a5 := n3_; have a6 := n4_; have HB := n5_; clear n0_ n1_ n2_ n3_ n4_ n5_; (try clear hb); (try clear hb2); (try clear hk); (try clear hi)))
   go_ret
   exact ⟨by first | rfl | (simp [errW_none, errW_some] <;> rfl) | (simp [*, errW_none, errW_some] <;> rfl), by repeat (first | (with_reducible first | exact HB.out | apply zS | apply zR | apply zT | refine zZ ?_ af.out | refine zZ ?_ ah.out) | exact HB.out)⟩
  rw [if_neg c7] at H
  have c7b0 : (al.toList == aj.toList) = false := beq_eq_false_iff_ne.mpr c7
  have c7b1 : (al.toList != aj.toList) = true := bne_iff_ne.mpr c7
  obtain rfl := Option.some.inj H
  go_enter Tryz.func5, Tryz.ntmps5
  go_wp2_with (first | ((with_reducible refine gate_dst (N := 1) rfl ?_); refine box_event ?hg (N := 1) ?hd (cs := #[.slice A0_0 l0_0.length c0_0, .slice A0_1 l0_1.length c0_1, .slice A0_2 l0_2.length c0_2, .int .i64 a0_3]) (t := 37) ?hr ?_; (case hd => rfl); (case hg => rfl); (case hr => first | (go_simp; done) | (go_simp; rfl)); intro a7 hg w25 hbox hb; have n0_ := uZ (yB (uB HB.out) hb); have n1_ := uZ (hbox); have n2_ := uZ ((by rw [hg]; exact (yA (uB HB.out)) : w.heap.size ≤ a7)); have n3_ := uZ ((by rw [hg]; exact (yA (uB HB.out)) : w.heap.size ≤ a7)); clear HB; have HB := n0_; have a5 := n1_; have GW235 := n2_; have af := n3_; clear n0_ n1_ n2_ n3_; clear hb hbox hg; have hcz26_0 : w25.cell? ⟨a7, 0, none⟩ = some (.slice A0_0 l0_0.length c0_0) := (zV a5.out 0).trans rfl; have hcz26_1 : w25.cell? ⟨a7, 1, none⟩ = some (.slice A0_1 l0_1.length c0_1) := (zV a5.out 1).trans rfl; have hcz26_2 : w25.cell? ⟨a7, 2, none⟩ = some (.slice A0_2 l0_2.length c0_2) := (zV a5.out 2).trans rfl; have hcz26_3 : w25.cell? ⟨a7, 3, none⟩ = some (.int .i64 a0_3) := (zV a5.out 3).trans rfl; have hfz26_0 := zU a5.out 0; have hfz26_1 := zU a5.out 1; have hfz26_2 := zU a5.out 2; have hfz26_3 := zU a5.out 3) | ((with_reducible refine gate_callee (f := 15) rfl ?_); refine goesL_ (some 6) rfl rfl Tryz.func15 (by kernel_rfl) rfl #[.agg #[.slice A0_0 l0_0.length c0_0, .slice A0_1 l0_1.length c0_1, .slice A0_2 l0_2.length c0_2, .int .i64 a0_3]] rfl (by (try simp only [yC, List.map_cons, List.map_nil]); first | done | rfl | (simp only [yD, yE]; rfl)) ?_; (with_reducible refine (switchbacklaw18_Copy.calls _ _ l0_0 _ _ l0_1 _ _ l0_2 a0_3 ac ad ae ag _ ?side1 ?side2 ?side3 ?side4 ?side5 ?side6 A2.out).mono ?_); (case side1 => repeat (first | exact (zN HR0_0.out HB.out) | (with_reducible refine zK ?_ _) | (with_reducible refine zL ?_ _) | (with_reducible refine zM ?_))); (case side2 => exact HC0_0.out); (case side3 => repeat (first | exact (zN HR0_1.out HB.out) | (with_reducible refine zK ?_ _) | (with_reducible refine zL ?_ _) | (with_reducible refine zM ?_))); (case side4 => exact HC0_1.out); (case side5 => repeat (first | exact (zN HR0_2.out HB.out) | (with_reducible refine zK ?_ _) | (with_reducible refine zL ?_ _) | (with_reducible refine zM ?_))); (case side6 => exact HC0_2.out); rintro e w27 ⟨v237, v240, v243, rfl, ho0, ho1, ho2, hb⟩; refine ⟨_, rfl, ?_⟩; have n0_ := uZ (zH ho0 (yA (uC HB.out af.out))); have n1_ := uZ (zH ho1 (yA (uC HB.out af.out))); have n2_ := uZ (zH ho2 (yA (uC HB.out af.out))); have n3_ := uZ (zY (g := a7) (o := .cells #[.slice A0_0 l0_0.length c0_0, .slice A0_1 l0_1.length c0_1, .slice A0_2 l0_2.length c0_2, .int .i64 a0_3] 37 (0, 0)) (uK a5.out) hb); have n4_ := uZ (yB (uC HB.out af.out) hb); clear a5; clear HB; have a8 := n0_; have a9 := n1_; have aa := n2_; have a5 := n3_; have HB := n4_; clear n0_ n1_ n2_ n3_ n4_; (try clear hb); (try clear hb2); (try clear hk); (try clear hi); (try clear ho0); (try clear ho1); (try clear ho2)) | ((with_reducible refine gate_dst (N := 3) rfl ?_); refine box_event ?hg (N := 3) ?hd (cs := #[.slice none 0 0, .slice none 0 0, .slice none 0 0, .int .i64 0]) (t := 37) ?hr ?_; (case hd => rfl); (case hg => rfl); (case hr => first | (go_simp; done) | (go_simp; rfl)); intro a4 hg w28 hbox hb; have n0_ := uZ (zE (uR a8.out) hb); have n1_ := uZ (zE (uR a9.out) hb); have n2_ := uZ (zE (uR aa.out) hb); have n3_ := uZ (zY (g := a7) (o := .cells #[.slice A0_0 l0_0.length c0_0, .slice A0_1 l0_1.length c0_1, .slice A0_2 l0_2.length c0_2, .int .i64 a0_3] 37 (0, 0)) (uK a5.out) hb); have n4_ := uZ (yB (uC HB.out af.out) hb); have n5_ := uZ (hbox); have n6_ := uZ ((by rw [hg]; exact (yA (uC HB.out af.out)) : w.heap.size ≤ a4)); have n7_ := uZ ((by rw [hg]; exact (yA (uC HB.out af.out)) : w.heap.size ≤ a4)); have n8_ := uZ ((by rw [hg]; exact Nat.ne_of_lt (blk_lt (g := a7) (o := .cells #[.slice A0_0 l0_0.length c0_0, .slice A0_1 l0_1.length c0_1, .slice A0_2 l0_2.length c0_2, .int .i64 a0_3] 37 (0, 0)) (uK a5.out)) : a7 ≠ a4)); have n9_ := uZ ((by rw [hg]; exact Nat.ne_of_gt (blk_lt (g := a7) (o := .cells #[.slice A0_0 l0_0.length c0_0, .slice A0_1 l0_1.length c0_1, .slice A0_2 l0_2.length c0_2, .int .i64 a0_3] 37 (0, 0)) (uK a5.out)) : a4 ≠ a7)); clear a8; clear a9; clear aa; clear a5; clear HB; have a8 := n0_; have a9 := n1_; have aa := n2_; have a5 := n3_; have HB := n4_; have a6 := n5_; have GW246 := n6_; have ah := n7_; have ab := n8_; have ai := n9_; clear n0_ n1_ n2_ n3_ n4_ n5_ n6_ n7_ n8_ n9_; clear hb hbox hg; obtain ⟨av, ap, eo29⟩ := zI a8.out; subst eo29; have hnb30 := ai.out; have hnc30 := ab.out; have hcz31_0 : w28.cell? ⟨a4, 0, none⟩ = some (.slice none 0 0) := (zV a6.out 0).trans rfl; have hcz31_1 : w28.cell? ⟨a4, 1, none⟩ = some (.slice none 0 0) := (zV a6.out 1).trans rfl; have hcz31_2 : w28.cell? ⟨a4, 2, none⟩ = some (.slice none 0 0) := (zV a6.out 2).trans rfl; have hcz31_3 : w28.cell? ⟨a4, 3, none⟩ = some (.int .i64 0) := (zV a6.out 3).trans rfl; have hfz31_0 := zU a6.out 0; have hfz31_1 := zU a6.out 1; have hfz31_2 := zU a6.out 2; have hfz31_3 := zU a6.out 3; obtain ⟨Ao32, co32, eo32⟩ := zI a9.out; subst eo32; obtain ⟨Ao33, co33, eo33⟩ := zI aa.out; subst eo33) | ((with_reducible refine gate_callee (f := 16) rfl ?_); refine goesL_ (some 8) rfl rfl Tryz.func16 (by kernel_rfl) rfl #[.agg #[.slice av ac.length ap, .slice Ao32 ad.length co32, .slice Ao33 ae.length co33, .int .i64 ag]] rfl (by (try simp only [yC, List.map_cons, List.map_nil]); first | done | rfl | (simp only [yD, yE]; rfl)) ?_; (with_reducible refine (list_Show.calls _ _ ac _ _ ad _ _ ae ag al _ ?side1 ?side2 ?side3 ?side4 ?side5 ?side6 (uZ (hLaid_.out.below (by repeat (first | (with_reducible first | exact HB.out | apply zS | apply zR | apply zT) | refine zZ ?_ (Aside0.out (by assumption)) | exact HB.out)))) A3.out).mono ?_); (case side1 => refine (zJ (e := 47) (base := w.heap.size) (ok := fun k_ => some k_ ≠ (.slice Ao33 ae.length co33 : Value).ownBlock) (n := ac.length) (c := ap) ?_).2.2; exact (by (with_reducible repeat (first | apply zA | apply zB | apply zC)); exact (zF (zD (p := ⟨a4, 3, none⟩) (zD (p := ⟨a4, 2, none⟩) (zD (p := ⟨a4, 1, none⟩) (zD (p := ⟨a4, 0, none⟩) (zG a8.out a6.out (by decide)) (fun _ hk => hk.2) (.slice av ac.length ap)) (fun _ hk => hk.2) (.slice Ao32 ad.length co32)) (fun _ hk => hk.2) (.slice Ao33 ae.length co33)) (fun _ hk => hk.2) (.int .i64 ag)) (fun _ h_ => h_.1)))); (case side2 => exact (zJ a8.out).2.1); (case side3 => refine (zJ (e := 3) (base := w.heap.size) (ok := fun k_ => True) (n := ad.length) (c := co32) ?_).2.2; exact (by (with_reducible repeat (first | apply zA | apply zB | apply zC)); exact (zF (zD (p := ⟨a4, 3, none⟩) (zD (p := ⟨a4, 2, none⟩) (zD (p := ⟨a4, 1, none⟩) (zD (p := ⟨a4, 0, none⟩) (zG a9.out a6.out (by decide)) (fun _ hk => hk.2) (.slice av ac.length ap)) (fun _ hk => hk.2) (.slice Ao32 ad.length co32)) (fun _ hk => hk.2) (.slice Ao33 ae.length co33)) (fun _ hk => hk.2) (.int .i64 ag)) (fun _ h_ => h_.1)))); (case side4 => exact (zJ a9.out).2.1); (case side5 => refine (zJ (e := 47) (base := w.heap.size) (ok := fun k_ => some k_ ≠ (.slice av ac.length ap : Value).ownBlock) (n := ae.length) (c := co33) ?_).2.2; exact (by (with_reducible repeat (first | apply zA | apply zB | apply zC)); exact (zF (zD (p := ⟨a4, 3, none⟩) (zD (p := ⟨a4, 2, none⟩) (zD (p := ⟨a4, 1, none⟩) (zD (p := ⟨a4, 0, none⟩) (zG aa.out a6.out (by decide)) (fun _ hk => hk.2) (.slice av ac.length ap)) (fun _ hk => hk.2) (.slice Ao32 ad.length co32)) (fun _ hk => hk.2) (.slice Ao33 ae.length co33)) (fun _ hk => hk.2) (.int .i64 ag)) (fun _ h_ => h_.1)))); (case side6 => exact (zJ aa.out).2.1); rintro e w34 ⟨rfl, hb⟩; refine ⟨_, rfl, ?_⟩; have n0_ := uZ (zE (by (with_reducible repeat (first | apply zA | apply zB | apply zC)); exact (zF (zD (p := ⟨a4, 3, none⟩) (zD (p := ⟨a4, 2, none⟩) (zD (p := ⟨a4, 1, none⟩) (zD (p := ⟨a4, 0, none⟩) (zG a8.out a6.out (by decide)) (fun _ hk => hk.2) (.slice av ac.length ap)) (fun _ hk => hk.2) (.slice Ao32 ad.length co32)) (fun _ hk => hk.2) (.slice Ao33 ae.length co33)) (fun _ hk => hk.2) (.int .i64 ag)) (fun _ h_ => h_.1))) hb); have n1_ := uZ (zE (by (with_reducible repeat (first | apply zA | apply zB | apply zC)); exact (zF (zD (p := ⟨a4, 3, none⟩) (zD (p := ⟨a4, 2, none⟩) (zD (p := ⟨a4, 1, none⟩) (zD (p := ⟨a4, 0, none⟩) (zG a9.out a6.out (by decide)) (fun _ hk => hk.2) (.slice av ac.length ap)) (fun _ hk => hk.2) (.slice Ao32 ad.length co32)) (fun _ hk => hk.2) (.slice Ao33 ae.length co33)) (fun _ hk => hk.2) (.int .i64 ag)) (fun _ h_ => h_.1))) hb); have n2_ := uZ (zE (by (with_reducible repeat (first | apply zA | apply zB | apply zC)); exact (zF (zD (p := ⟨a4, 3, none⟩) (zD (p := ⟨a4, 2, none⟩) (zD (p := ⟨a4, 1, none⟩) (zD (p := ⟨a4, 0, none⟩) (zG aa.out a6.out (by decide)) (fun _ hk => hk.2) (.slice av ac.length ap)) (fun _ hk => hk.2) (.slice Ao32 ad.length co32)) (fun _ hk => hk.2) (.slice Ao33 ae.length co33)) (fun _ hk => hk.2) (.int .i64 ag)) (fun _ h_ => h_.1))) hb); have n3_ := uZ (zY (g := a7) (o := .cells #[.slice A0_0 l0_0.length c0_0, .slice A0_1 l0_1.length c0_1, .slice A0_2 l0_2.length c0_2, .int .i64 a0_3] 37 (0, 0)) (by (with_reducible repeat (first | apply zO | apply zP | apply zQ)); refine zX ?_ ab.out _; (with_reducible repeat (first | apply zO | apply zP | apply zQ)); refine zX ?_ ab.out _; (with_reducible repeat (first | apply zO | apply zP | apply zQ)); refine zX ?_ ab.out _; (with_reducible repeat (first | apply zO | apply zP | apply zQ)); refine zX ?_ ab.out _; (with_reducible repeat (first | apply zO | apply zP | apply zQ)); exact a5.out) hb); have n4_ := uZ (zY (g := a4) (o := .cells #[.slice av ac.length ap, .slice Ao32 ad.length co32, .slice Ao33 ae.length co33, .int .i64 ag] 37 (0, 0)) (by (with_reducible repeat (first | apply zO | apply zP | apply zQ)); refine zW (cs := #[.slice av ac.length ap, .slice Ao32 ad.length co32, .slice Ao33 ae.length co33, .int .i64 0]) ?_ 3 _ rfl; (with_reducible repeat (first | apply zO | apply zP | apply zQ)); refine zW (cs := #[.slice av ac.length ap, .slice Ao32 ad.length co32, .slice none 0 0, .int .i64 0]) ?_ 2 _ rfl; (with_reducible repeat (first | apply zO | apply zP | apply zQ)); refine zW (cs := #[.slice av ac.length ap, .slice none 0 0, .slice none 0 0, .int .i64 0]) ?_ 1 _ rfl; (with_reducible repeat (first | apply zO | apply zP | apply zQ)); refine zW (cs := #[.slice none 0 0, .slice none 0 0, .slice none 0 0, .int .i64 0]) ?_ 0 _ rfl; (with_reducible repeat (first | apply zO | apply zP | apply zQ)); exact a6.out) hb); have n5_ := uZ (yB (uD HB.out af.out ah.out) hb); clear a8; clear a9; clear aa; clear a5; clear a6; clear HB; have a8 := n0_; have a9 := n1_; have aa := n2_; have a5 := n3_; have a6 := n4_; have HB := n5_; clear n0_ n1_ n2_ n3_ n4_ n5_; (try clear hb); (try clear hb2); (try clear hk); (try clear hi)) | ((with_reducible refine gate_callee (f := 10) rfl ?_); refine goesL_ (some 9) rfl rfl Tryz.func10 (by kernel_rfl) rfl #[] rfl (by (try simp only [yC, List.map_cons, List.map_nil]); first | done | rfl | (simp only [yD, yE]; rfl)) ?_; (with_reducible refine (switchbacklaw22_live.calls  true _ (uZ (hLaid_.out.below (by repeat (first | (with_reducible first | exact HB.out | apply zS | apply zR | apply zT) | refine zZ ?_ (Aside0.out (by assumption)) | exact HB.out)))) A4.out).mono ?_); rintro e w35 ⟨rfl, hb⟩; refine ⟨_, rfl, ?_⟩; have n0_ := uZ (zE (uR a8.out) hb); have n1_ := uZ (zE (uR a9.out) hb); have n2_ := uZ (zE (uR aa.out) hb); have n3_ := uZ (zY (g := a7) (o := .cells #[.slice A0_0 l0_0.length c0_0, .slice A0_1 l0_1.length c0_1, .slice A0_2 l0_2.length c0_2, .int .i64 a0_3] 37 (0, 0)) (uK a5.out) hb); have n4_ := uZ (zY (g := a4) (o := .cells #[.slice av ac.length ap, .slice Ao32 ad.length co32, .slice Ao33 ae.length co33, .int .i64 ag] 37 (0, 0)) (uK a6.out) hb); have n5_ := uZ (yB (uD HB.out af.out ah.out) hb); clear a8; clear a9; clear aa; clear a5; clear a6; clear HB; have a8 := n0_; have a9 := n1_; have aa := n2_; have a5 := n3_; have a6 := n4_; have HB := n5_; clear n0_ n1_ n2_ n3_ n4_ n5_; (try clear hb); (try clear hb2); (try clear hk); (try clear hi); have hcz36_0 : w35.cell? ⟨a7, 0, none⟩ = some (.slice A0_0 l0_0.length c0_0) := (zV a5.out 0).trans rfl; have hcz36_1 : w35.cell? ⟨a7, 1, none⟩ = some (.slice A0_1 l0_1.length c0_1) := (zV a5.out 1).trans rfl; have hcz36_2 : w35.cell? ⟨a7, 2, none⟩ = some (.slice A0_2 l0_2.length c0_2) := (zV a5.out 2).trans rfl; have hcz36_3 : w35.cell? ⟨a7, 3, none⟩ = some (.int .i64 a0_3) := (zV a5.out 3).trans rfl; have hfz36_0 := zU a5.out 0; have hfz36_1 := zU a5.out 1; have hfz36_2 := zU a5.out 2; have hfz36_3 := zU a5.out 3) | (go_at_call 17; (with_reducible refine (switchbackref22_Show.calls _ _ l0_0 _ _ l0_1 _ _ l0_2 a0_3 aj _ ?side1 ?side2 ?side3 ?side4 ?side5 ?side6 A6.out).mono ?_); (case side1 => repeat (first | exact (zN HR0_0.out HB.out) | (with_reducible refine zK ?_ _) | (with_reducible refine zL ?_ _) | (with_reducible refine zM ?_))); (case side2 => exact HC0_0.out); (case side3 => repeat (first | exact (zN HR0_1.out HB.out) | (with_reducible refine zK ?_ _) | (with_reducible refine zL ?_ _) | (with_reducible refine zM ?_))); (case side4 => exact HC0_1.out); (case side5 => repeat (first | exact (zN HR0_2.out HB.out) | (with_reducible refine zK ?_ _) | (with_reducible refine zL ?_ _) | (with_reducible refine zM ?_))); (case side6 => exact HC0_2.out); rintro e w37 ⟨rfl, hb⟩; have n0_ := uZ (zE (uR a8.out) hb); have n1_ := uZ (zE (uR a9.out) hb); have n2_ := uZ (zE (uR aa.out) hb); have n3_ := uZ (zY (g := a7) (o := .cells #[.slice A0_0 l0_0.length c0_0, .slice A0_1 l0_1.length c0_1, .slice A0_2 l0_2.length c0_2, .int .i64 a0_3] 37 (0, 0)) (uK a5.out) hb); have n4_ := uZ (zY (g := a4) (o := .cells #[.slice av ac.length ap, .slice Ao32 ad.length co32, .slice Ao33 ae.length co33, .int .i64 ag] 37 (0, 0)) (uK a6.out) hb); have n5_ := uZ (yB (uD HB.out af.out ah.out) hb); clear a8; clear a9; clear aa; clear a5; clear a6; clear HB; have a8 := n0_; have a9 := n1_; have aa := n2_; have a5 := n3_; have a6 := n4_; have HB := n5_; clear n0_ n1_ n2_ n3_ n4_ n5_; (try clear hb); (try clear hb2); (try clear hk); (try clear hi)))
  go_ret
  exact ⟨by first | rfl | (simp [errW_none, errW_some] <;> rfl) | (simp [*, errW_none, errW_some] <;> rfl), by repeat (first | (with_reducible first | exact HB.out | apply zS | apply zR | apply zT | refine zZ ?_ af.out | refine zZ ?_ ah.out) | exact HB.out)⟩
 replace c5 := Bool.eq_false_iff.mpr c5
 subst c5
 have H1 : (some false) = some r := by rw [if_neg (show ¬ (false = true) by decide)] at H; exact H
 clear H
 have H := H1
 clear H1
 obtain rfl := Option.some.inj H
 go_enter Tryz.func5, Tryz.ntmps5
 go_wp2_with (first | ((with_reducible refine gate_dst (N := 1) rfl ?_); refine box_event ?hg (N := 1) ?hd (cs := #[.slice A0_0 l0_0.length c0_0, .slice A0_1 l0_1.length c0_1, .slice A0_2 l0_2.length c0_2, .int .i64 a0_3]) (t := 37) ?hr ?_; (case hd => rfl); (case hg => rfl); (case hr => first | (go_simp; done) | (go_simp; rfl)); intro a7 hg w38 hbox hb; have n0_ := uZ (yB (uB HB.out) hb); have n1_ := uZ (hbox); have n2_ := uZ ((by rw [hg]; exact (yA (uB HB.out)) : w.heap.size ≤ a7)); have n3_ := uZ ((by rw [hg]; exact (yA (uB HB.out)) : w.heap.size ≤ a7)); clear HB; have HB := n0_; have a5 := n1_; have GW235 := n2_; have af := n3_; clear n0_ n1_ n2_ n3_; clear hb hbox hg; have hcz39_0 : w38.cell? ⟨a7, 0, none⟩ = some (.slice A0_0 l0_0.length c0_0) := (zV a5.out 0).trans rfl; have hcz39_1 : w38.cell? ⟨a7, 1, none⟩ = some (.slice A0_1 l0_1.length c0_1) := (zV a5.out 1).trans rfl; have hcz39_2 : w38.cell? ⟨a7, 2, none⟩ = some (.slice A0_2 l0_2.length c0_2) := (zV a5.out 2).trans rfl; have hcz39_3 : w38.cell? ⟨a7, 3, none⟩ = some (.int .i64 a0_3) := (zV a5.out 3).trans rfl; have hfz39_0 := zU a5.out 0; have hfz39_1 := zU a5.out 1; have hfz39_2 := zU a5.out 2; have hfz39_3 := zU a5.out 3) | ((with_reducible refine gate_callee (f := 15) rfl ?_); refine goesL_ (some 6) rfl rfl Tryz.func15 (by kernel_rfl) rfl #[.agg #[.slice A0_0 l0_0.length c0_0, .slice A0_1 l0_1.length c0_1, .slice A0_2 l0_2.length c0_2, .int .i64 a0_3]] rfl (by (try simp only [yC, List.map_cons, List.map_nil]); first | done | rfl | (simp only [yD, yE]; rfl)) ?_; (with_reducible refine (switchbacklaw18_Copy.calls _ _ l0_0 _ _ l0_1 _ _ l0_2 a0_3 ac ad ae ag _ ?side1 ?side2 ?side3 ?side4 ?side5 ?side6 A2.out).mono ?_); (case side1 => repeat (first | exact (zN HR0_0.out HB.out) | (with_reducible refine zK ?_ _) | (with_reducible refine zL ?_ _) | (with_reducible refine zM ?_))); (case side2 => exact HC0_0.out); (case side3 => repeat (first | exact (zN HR0_1.out HB.out) | (with_reducible refine zK ?_ _) | (with_reducible refine zL ?_ _) | (with_reducible refine zM ?_))); (case side4 => exact HC0_1.out); (case side5 => repeat (first | exact (zN HR0_2.out HB.out) | (with_reducible refine zK ?_ _) | (with_reducible refine zL ?_ _) | (with_reducible refine zM ?_))); (case side6 => exact HC0_2.out); rintro e w40 ⟨v237, v240, v243, rfl, ho0, ho1, ho2, hb⟩; refine ⟨_, rfl, ?_⟩; have n0_ := uZ (zH ho0 (yA (uC HB.out af.out))); have n1_ := uZ (zH ho1 (yA (uC HB.out af.out))); have n2_ := uZ (zH ho2 (yA (uC HB.out af.out))); have n3_ := uZ (zY (g := a7) (o := .cells #[.slice A0_0 l0_0.length c0_0, .slice A0_1 l0_1.length c0_1, .slice A0_2 l0_2.length c0_2, .int .i64 a0_3] 37 (0, 0)) (uK a5.out) hb); have n4_ := uZ (yB (uC HB.out af.out) hb); clear a5; clear HB; have a8 := n0_; have a9 := n1_; have aa := n2_; have a5 := n3_; have HB := n4_; clear n0_ n1_ n2_ n3_ n4_; (try clear hb); (try clear hb2); (try clear hk); (try clear hi); (try clear ho0); (try clear ho1); (try clear ho2)) | ((with_reducible refine gate_dst (N := 3) rfl ?_); refine box_event ?hg (N := 3) ?hd (cs := #[.slice none 0 0, .slice none 0 0, .slice none 0 0, .int .i64 0]) (t := 37) ?hr ?_; (case hd => rfl); (case hg => rfl); (case hr => first | (go_simp; done) | (go_simp; rfl)); intro a4 hg w41 hbox hb; have n0_ := uZ (zE (uR a8.out) hb); have n1_ := uZ (zE (uR a9.out) hb); have n2_ := uZ (zE (uR aa.out) hb); have n3_ := uZ (zY (g := a7) (o := .cells #[.slice A0_0 l0_0.length c0_0, .slice A0_1 l0_1.length c0_1, .slice A0_2 l0_2.length c0_2, .int .i64 a0_3] 37 (0, 0)) (uK a5.out) hb); have n4_ := uZ (yB (uC HB.out af.out) hb); have n5_ := uZ (hbox); have n6_ := uZ ((by rw [hg]; exact (yA (uC HB.out af.out)) : w.heap.size ≤ a4)); have n7_ := uZ ((by rw [hg]; exact (yA (uC HB.out af.out)) : w.heap.size ≤ a4)); have n8_ := uZ ((by rw [hg]; exact Nat.ne_of_lt (blk_lt (g := a7) (o := .cells #[.slice A0_0 l0_0.length c0_0, .slice A0_1 l0_1.length c0_1, .slice A0_2 l0_2.length c0_2, .int .i64 a0_3] 37 (0, 0)) (uK a5.out)) : a7 ≠ a4)); have n9_ := uZ ((by rw [hg]; exact Nat.ne_of_gt (blk_lt (g := a7) (o := .cells #[.slice A0_0 l0_0.length c0_0, .slice A0_1 l0_1.length c0_1, .slice A0_2 l0_2.length c0_2, .int .i64 a0_3] 37 (0, 0)) (uK a5.out)) : a4 ≠ a7)); clear a8; clear a9; clear aa; clear a5; clear HB; have a8 := n0_; have a9 := n1_; have aa := n2_; have a5 := n3_; have HB := n4_; have a6 := n5_; have GW246 := n6_; have ah := n7_; have ab := n8_; have ai := n9_; clear n0_ n1_ n2_ n3_ n4_ n5_ n6_ n7_ n8_ n9_; clear hb hbox hg; obtain ⟨Ao42, aw, eo42⟩ := zI a8.out; subst eo42; have hnb43 := ai.out; have hnc43 := ab.out; have hcz44_0 : w41.cell? ⟨a4, 0, none⟩ = some (.slice none 0 0) := (zV a6.out 0).trans rfl; have hcz44_1 : w41.cell? ⟨a4, 1, none⟩ = some (.slice none 0 0) := (zV a6.out 1).trans rfl; have hcz44_2 : w41.cell? ⟨a4, 2, none⟩ = some (.slice none 0 0) := (zV a6.out 2).trans rfl; have hcz44_3 : w41.cell? ⟨a4, 3, none⟩ = some (.int .i64 0) := (zV a6.out 3).trans rfl; have hfz44_0 := zU a6.out 0; have hfz44_1 := zU a6.out 1; have hfz44_2 := zU a6.out 2; have hfz44_3 := zU a6.out 3; obtain ⟨Ao45, co45, eo45⟩ := zI a9.out; subst eo45; obtain ⟨Ao46, co46, eo46⟩ := zI aa.out; subst eo46) | ((with_reducible refine gate_callee (f := 16) rfl ?_); refine goesL_ (some 8) rfl rfl Tryz.func16 (by kernel_rfl) rfl #[.agg #[.slice Ao42 ac.length aw, .slice Ao45 ad.length co45, .slice Ao46 ae.length co46, .int .i64 ag]] rfl (by (try simp only [yC, List.map_cons, List.map_nil]); first | done | rfl | (simp only [yD, yE]; rfl)) ?_; (with_reducible refine (list_Show.calls _ _ ac _ _ ad _ _ ae ag al _ ?side1 ?side2 ?side3 ?side4 ?side5 ?side6 (uZ (hLaid_.out.below (by repeat (first | (with_reducible first | exact HB.out | apply zS | apply zR | apply zT) | refine zZ ?_ (Aside0.out (by assumption)) | exact HB.out)))) A3.out).mono ?_); (case side1 => refine (zJ (e := 47) (base := w.heap.size) (ok := fun k_ => some k_ ≠ (.slice Ao46 ae.length co46 : Value).ownBlock) (n := ac.length) (c := aw) ?_).2.2; exact (by (with_reducible repeat (first | apply zA | apply zB | apply zC)); exact (zF (zD (p := ⟨a4, 3, none⟩) (zD (p := ⟨a4, 2, none⟩) (zD (p := ⟨a4, 1, none⟩) (zD (p := ⟨a4, 0, none⟩) (zG a8.out a6.out (by decide)) (fun _ hk => hk.2) (.slice Ao42 ac.length aw)) (fun _ hk => hk.2) (.slice Ao45 ad.length co45)) (fun _ hk => hk.2) (.slice Ao46 ae.length co46)) (fun _ hk => hk.2) (.int .i64 ag)) (fun _ h_ => h_.1)))); (case side2 => exact (zJ a8.out).2.1); (case side3 => refine (zJ (e := 3) (base := w.heap.size) (ok := fun k_ => True) (n := ad.length) (c := co45) ?_).2.2; exact (by (with_reducible repeat (first | apply zA | apply zB | apply zC)); exact (zF (zD (p := ⟨a4, 3, none⟩) (zD (p := ⟨a4, 2, none⟩) (zD (p := ⟨a4, 1, none⟩) (zD (p := ⟨a4, 0, none⟩) (zG a9.out a6.out (by decide)) (fun _ hk => hk.2) (.slice Ao42 ac.length aw)) (fun _ hk => hk.2) (.slice Ao45 ad.length co45)) (fun _ hk => hk.2) (.slice Ao46 ae.length co46)) (fun _ hk => hk.2) (.int .i64 ag)) (fun _ h_ => h_.1)))); (case side4 => exact (zJ a9.out).2.1); (case side5 => refine (zJ (e := 47) (base := w.heap.size) (ok := fun k_ => some k_ ≠ (.slice Ao42 ac.length aw : Value).ownBlock) (n := ae.length) (c := co46) ?_).2.2; exact (by (with_reducible repeat (first | apply zA | apply zB | apply zC)); exact (zF (zD (p := ⟨a4, 3, none⟩) (zD (p := ⟨a4, 2, none⟩) (zD (p := ⟨a4, 1, none⟩) (zD (p := ⟨a4, 0, none⟩) (zG aa.out a6.out (by decide)) (fun _ hk => hk.2) (.slice Ao42 ac.length aw)) (fun _ hk => hk.2) (.slice Ao45 ad.length co45)) (fun _ hk => hk.2) (.slice Ao46 ae.length co46)) (fun _ hk => hk.2) (.int .i64 ag)) (fun _ h_ => h_.1)))); (case side6 => exact (zJ aa.out).2.1); rintro e w47 ⟨rfl, hb⟩; refine ⟨_, rfl, ?_⟩; have n0_ := uZ (zE (by (with_reducible repeat (first | apply zA | apply zB | apply zC)); exact (zF (zD (p := ⟨a4, 3, none⟩) (zD (p := ⟨a4, 2, none⟩) (zD (p := ⟨a4, 1, none⟩) (zD (p := ⟨a4, 0, none⟩) (zG a8.out a6.out (by decide)) (fun _ hk => hk.2) (.slice Ao42 ac.length aw)) (fun _ hk => hk.2) (.slice Ao45 ad.length co45)) (fun _ hk => hk.2) (.slice Ao46 ae.length co46)) (fun _ hk => hk.2) (.int .i64 ag)) (fun _ h_ => h_.1))) hb); have n1_ := uZ (zE (by (with_reducible repeat (first | apply zA | apply zB | apply zC)); exact (zF (zD (p := ⟨a4, 3, none⟩) (zD (p := ⟨a4, 2, none⟩) (zD (p := ⟨a4, 1, none⟩) (zD (p := ⟨a4, 0, none⟩) (zG a9.out a6.out (by decide)) (fun _ hk => hk.2) (.slice Ao42 ac.length aw)) (fun _ hk => hk.2) (.slice Ao45 ad.length co45)) (fun _ hk => hk.2) (.slice Ao46 ae.length co46)) (fun _ hk => hk.2) (.int .i64 ag)) (fun _ h_ => h_.1))) hb); have n2_ := uZ (zE (by (with_reducible repeat (first | apply zA | apply zB | apply zC)); exact (zF (zD (p := ⟨a4, 3, none⟩) (zD (p := ⟨a4, 2, none⟩) (zD (p := ⟨a4, 1, none⟩) (zD (p := ⟨a4, 0, none⟩) (zG aa.out a6.out (by decide)) (fun _ hk => hk.2) (.slice Ao42 ac.length aw)) (fun _ hk => hk.2) (.slice Ao45 ad.length co45)) (fun _ hk => hk.2) (.slice Ao46 ae.length co46)) (fun _ hk => hk.2) (.int .i64 ag)) (fun _ h_ => h_.1))) hb); have n3_ := uZ (zY (g := a7) (o := .cells #[.slice A0_0 l0_0.length c0_0, .slice A0_1 l0_1.length c0_1, .slice A0_2 l0_2.length c0_2, .int .i64 a0_3] 37 (0, 0)) (by (with_reducible repeat (first | apply zO | apply zP | apply zQ)); refine zX ?_ ab.out _; (with_reducible repeat (first | apply zO | apply zP | apply zQ)); refine zX ?_ ab.out _; (with_reducible repeat (first | apply zO | apply zP | apply zQ)); refine zX ?_ ab.out _; (with_reducible repeat (first | apply zO | apply zP | apply zQ)); refine zX ?_ ab.out _; (with_reducible repeat (first | apply zO | apply zP | apply zQ)); exact a5.out) hb); have n4_ := uZ (zY (g := a4) (o := .cells #[.slice Ao42 ac.length aw, .slice Ao45 ad.length co45, .slice Ao46 ae.length co46, .int .i64 ag] 37 (0, 0)) (by (with_reducible repeat (first | apply zO | apply zP | apply zQ)); refine zW (cs := #[.slice Ao42 ac.length aw, .slice Ao45 ad.length co45, .slice Ao46 ae.length co46, .int .i64 0]) ?_ 3 _ rfl; (with_reducible repeat (first | apply zO | apply zP | apply zQ)); refine zW (cs := #[.slice Ao42 ac.length aw, .slice Ao45 ad.length co45, .slice none 0 0, .int .i64 0]) ?_ 2 _ rfl; (with_reducible repeat (first | apply zO | apply zP | apply zQ)); refine zW (cs := #[.slice Ao42 ac.length aw, .slice none 0 0, .slice none 0 0, .int .i64 0]) ?_ 1 _ rfl; (with_reducible repeat (first | apply zO | apply zP | apply zQ)); refine zW (cs := #[.slice none 0 0, .slice none 0 0, .slice none 0 0, .int .i64 0]) ?_ 0 _ rfl; (with_reducible repeat (first | apply zO | apply zP | apply zQ)); exact a6.out) hb); have n5_ := uZ (yB (uD HB.out af.out ah.out) hb); clear a8; clear a9; clear aa; clear a5; clear a6; clear HB; have a8 := n0_; have a9 := n1_; have aa := n2_; have a5 := n3_; have a6 := n4_; have HB := n5_; clear n0_ n1_ n2_ n3_ n4_ n5_; (try clear hb); (try clear hb2); (try clear hk); (try clear hi)) | ((with_reducible refine gate_callee (f := 10) rfl ?_); refine goesL_ (some 9) rfl rfl Tryz.func10 (by kernel_rfl) rfl #[] rfl (by (try simp only [yC, List.map_cons, List.map_nil]); first | done | rfl | (simp only [yD, yE]; rfl)) ?_; (with_reducible refine (switchbacklaw22_live.calls  false _ (uZ (hLaid_.out.below (by repeat (first | (with_reducible first | exact HB.out | apply zS | apply zR | apply zT) | refine zZ ?_ (Aside0.out (by assumption)) | exact HB.out)))) A4.out).mono ?_); rintro e w48 ⟨rfl, hb⟩; refine ⟨_, rfl, ?_⟩; have n0_ := uZ (zE (uR a8.out) hb); have n1_ := uZ (zE (uR a9.out) hb); have n2_ := uZ (zE (uR aa.out) hb); have n3_ := uZ (zY (g := a7) (o := .cells #[.slice A0_0 l0_0.length c0_0, .slice A0_1 l0_1.length c0_1, .slice A0_2 l0_2.length c0_2, .int .i64 a0_3] 37 (0, 0)) (uK a5.out) hb); have n4_ := uZ (zY (g := a4) (o := .cells #[.slice Ao42 ac.length aw, .slice Ao45 ad.length co45, .slice Ao46 ae.length co46, .int .i64 ag] 37 (0, 0)) (uK a6.out) hb); have n5_ := uZ (yB (uD HB.out af.out ah.out) hb); clear a8; clear a9; clear aa; clear a5; clear a6; clear HB; have a8 := n0_; have a9 := n1_; have aa := n2_; have a5 := n3_; have a6 := n4_; have HB := n5_; clear n0_ n1_ n2_ n3_ n4_ n5_; (try clear hb); (try clear hb2); (try clear hk); (try clear hi)))
 go_ret
 exact ⟨by first | rfl | (simp [errW_none, errW_some] <;> rfl) | (simp [*, errW_none, errW_some] <;> rfl), by repeat (first | (with_reducible first | exact HB.out | apply zS | apply zR | apply zT | refine zZ ?_ af.out | refine zZ ?_ ah.out) | exact HB.out)⟩

end Go.Proofs.YtlhgfhmdhmgmpaaGreatDoor.PZ3
