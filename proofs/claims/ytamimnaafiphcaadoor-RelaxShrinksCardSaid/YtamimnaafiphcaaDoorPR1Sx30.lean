-- Written by gp.py for this claim.
import Derived.Test.YtamimnaafiphcaaDoorPR1Sx0
import Derived.Test.YtamimnaafiphcaaDoorPR1Sx29
namespace Go.Proofs.YtamimnaafiphcaaDoor.PR1S
open Go.RowKit Go.Proofs.YtamimnaafiphcaaDoorW.PrintWords Go.Proofs.YtamimnaafiphcaaDoorW.PrintLast Go.Proofs.YtamimnaafiphcaaDoorW.PrintMore
attribute [local go_sem] max2_int min2_int max_two min_two max_three min_three max_four min_four   -- for this text's walks alone
set_option linter.unusedVariables false
set_option linter.unusedSimpArgs false

namespace q_switchbacklaw17_long
theorem uZ {p : Prop} (h : p) : Aside0 p := ⟨h⟩
theorem uK {p q : Prop} (h : p) (g : p → q := by intro h; (with_reducible repeat (first | apply blk_drewN | apply blk_drew | apply blk_alloc)); exact h) : q := g h
theorem uB {p q : Prop} (h : p) (g : p → q := by intro h; repeat (first | (with_reducible first | exact h | apply below_alloc | apply pw_below_drewN | apply below_drew1) | exact h)) : q := g h
theorem uC {p q s : Prop} (h : p) (j : s) (g : p → s → q := by intro h j; repeat (first | (with_reducible first | exact h | apply below_alloc | apply pw_below_drewN | apply below_drew1 | refine below_set ?_ j) | exact h)) : q := g h j
theorem uD {p q s r : Prop} (h : p) (j : s) (k : r) (g : p → s → r → q := by intro h j k; repeat (first | (with_reducible first | exact h | apply below_alloc | apply pw_below_drewN | apply below_drew1 | refine below_set ?_ j | refine below_set ?_ k) | exact h)) : q := g h j k
theorem zA : type_of% @Kd.C_alloc := @Kd.C_alloc
theorem zB : type_of% @Kd.C_drewN := @Kd.C_drewN
theorem zC : type_of% @Kd.C_drew := @Kd.C_drew
theorem zD : type_of% @Kd.C_below := @Kd.C_below
theorem zE : type_of% @blk_drewN := @blk_drewN
theorem zF : type_of% @blk_drew := @blk_drew
theorem zG : type_of% @blk_alloc := @blk_alloc
theorem zH : type_of% @pw_below_drewN := @pw_below_drewN
theorem zI : type_of% @below_alloc := @below_alloc
theorem zJ : type_of% @below_drew1 := @below_drew1
theorem zK : type_of% @blk_frozen := @blk_frozen
theorem zL : type_of% @blk_cell := @blk_cell
theorem zM : type_of% @blk_below := @blk_below
theorem zN : type_of% @below_set := @below_set
theorem zO : type_of% @below_size := @below_size
theorem zP : type_of% @below_step := @below_step
theorem zQ : type_of% @World.block_lt_of_cell? := @World.block_lt_of_cell?
theorem zR : type_of% @List.setIfInBounds_toArray := @List.setIfInBounds_toArray
theorem zS : type_of% @List.set_cons_zero := @List.set_cons_zero
theorem zT : type_of% @List.set_cons_succ := @List.set_cons_succ
theorem zU : type_of% @cell_far := @cell_far
theorem zV : type_of% @any_of := @any_of
end q_switchbacklaw17_long
open q_switchbacklaw17_long

/-! ### switchbacklaw17_long: function 34 -/
def switchbacklaw17_long.f (k : Nat) (l0 : List (S40)) (l1_0 : List Int) (l1_1 : List Int) (l1_2 : List Int) (a1_3 : Int) (a2 : Int) : Option (Bool) := if 0 ≤ a2 then (if a2 < (l1_2.length : Int) then ((switchbacklaw17_code.f k l1_0 l1_1 l1_2 a1_3 (rd l1_2 a2)).bind fun bt169 => (if bt169.2.2.2.2 = true then (if a2 < (l0.length : Int) then (some (bt169.1 != ((rd_T40 l0 a2).f0))) else (none)) else (some true))) else (none)) else (none)
theorem switchbacklaw17_long.mono : ∀ a0 a1 a2 a3 a4 a5 k, LeO (switchbacklaw17_long.f k a0 a1 a2 a3 a4 a5) (switchbacklaw17_long.f (k + 1) a0 a1 a2 a3 a4 a5) := by
  intro a0 a1 a2 a3 a4 a5 k
  unfold switchbacklaw17_long.f
  repeat' first
      | (with_reducible exact switchbacklaw17_code.mono _ _ _ _ _ _)
      | (with_reducible exact LeO.refl _)
      | (with_reducible exact LeO.none _)
      | (with_reducible refine LeO.ite ?_ ?_)
      | (with_reducible refine LeO.bind ?_ (fun _ => ?_))
      | exact switchbacklaw17_code.mono _ _ _ _ _ _
      | exact LeO.none _
      | refine LeO.ite ?_ ?_
      | refine LeO.bind ?_ (fun _ => ?_)
def switchbacklaw17_long.T1 : Bool × List (List Nat × List Nat) := (true, [([], []), ([], []), ([1], [1]), ([], []), ([2, 3], [2, 3]), ([4], [4]), ([0, 5], [0, 5]), ([6], [6]), ([7], [7]), ([7], [7]), ([], []), ([10, 8, 6, 0, 1, 2, 3, 4, 5, 6, 7, 8, 10], [8, 10]), ([9, 11, 0, 1, 2, 3, 4, 5, 6, 7, 8, 9, 10, 11], [9])])
def switchbacklaw17_long.B1 : List Nat := [0, 0, 2, 0, 14, 30, 63, 127, 255, 255, 0, 1535, 4095]
theorem switchbacklaw17_long.tab1 : rtab .any (opsOf Tryd.f34 1) = switchbacklaw17_long.T1 := by kernel_rfl
theorem switchbacklaw17_long.bits1 : waitsOk switchbacklaw17_long.T1.2 switchbacklaw17_long.B1 = true := by kernel_rfl
def switchbacklaw17_long.T2 : Bool × List (List Nat × List Nat) := (true, [([], []), ([0], [0]), ([1], [1]), ([2], [2]), ([3, 2], [2, 3]), ([2], [2]), ([2], [2]), ([5, 6, 2], [2, 5, 6]), ([7, 2], [2, 7]), ([8, 2], [2, 8]), ([4, 9, 2], [2, 4, 9]), ([2, 10], [2, 10]), ([11, 2, 0, 1, 2, 3, 4, 5, 6, 7, 8, 9, 10, 11], [11])])
def switchbacklaw17_long.B2 : List Nat := [0, 1, 3, 7, 15, 7, 7, 103, 231, 487, 1023, 2047, 4095]
theorem switchbacklaw17_long.tab2 : rtab .any (opsOf Tryd.f34 2) = switchbacklaw17_long.T2 := by kernel_rfl
theorem switchbacklaw17_long.bits2 : waitsOk switchbacklaw17_long.T2.2 switchbacklaw17_long.B2 = true := by kernel_rfl
set_option maxHeartbeats 8000000 in
set_option maxRecDepth 100000 in
theorem switchbacklaw17_long.calls (k : Nat) (A0 : Option Addr) (c0 : Nat) (l0 : List (S40)) (A1_0 : Option Addr) (c1_0 : Nat) (l1_0 : List Int) (A1_1 : Option Addr) (c1_1 : Nat) (l1_1 : List Int) (A1_2 : Option Addr) (c1_2 : Nat) (l1_2 : List Int) (a1_3 : Int) (a2 : Int) (r : Bool) (w : World) (hr0 : Kd.C k40 w A0 l0.length l0) (hc0 : l0.length ≤ c0) (hr1_0 : Kd.C (Kd.int .u32) w A1_0 l1_0.length l1_0) (hc1_0 : l1_0.length ≤ c1_0) (hr1_1 : Kd.C (Kd.int .i64) w A1_1 l1_1.length l1_1) (hc1_1 : l1_1.length ≤ c1_1) (hr1_2 : Kd.C (Kd.int .i64) w A1_2 l1_2.length l1_2) (hc1_2 : l1_2.length ≤ c1_2) (hLaid_ : Aside0 (Laid w)) (h : switchbacklaw17_long.f k l0 l1_0 l1_1 l1_2 a1_3 a2 = some r) :
    Calls Tryd.prog 34 #[.slice A0 l0.length c0, .agg #[.slice A1_0 l1_0.length c1_0, .slice A1_1 l1_1.length c1_1, .slice A1_2 l1_2.length c1_2, .int .i64 a1_3], .int .i64 a2] w fun e w' => e = .returned (.bool r) ∧ Below w.heap.size w w' := by
 have hu27 := Tryd.underlying27
 have hu44 := Tryd.underlying44
 have HR0 := uZ hr0
 have HC0 := uZ hc0
 clear hr0 hc0
 have HR1_0 := uZ hr1_0
 have HC1_0 := uZ hc1_0
 clear hr1_0 hc1_0
 have HR1_1 := uZ hr1_1
 have HC1_1 := uZ hc1_1
 clear hr1_1 hc1_1
 have HR1_2 := uZ hr1_2
 have HC1_2 := uZ hc1_2
 clear hr1_2 hc1_2
 have HB := uZ (Below.refl w.heap.size w)
 have H : (if 0 ≤ a2 then (if a2 < (l1_2.length : Int) then ((switchbacklaw17_code.f k l1_0 l1_1 l1_2 a1_3 (rd l1_2 a2)).bind fun bt169 => (if bt169.2.2.2.2 = true then (if a2 < (l0.length : Int) then (some (bt169.1 != ((rd_T40 l0 a2).f0))) else (none)) else (some true))) else (none)) else (none)) = some r := h
 clear h
 by_cases c4 : 0 ≤ a2
 ·rw [if_pos c4] at H
  have c4b0 : decide (0 ≤ a2) = true := decide_eq_true c4
  clear c4
  by_cases c5 : a2 < (l1_2.length : Int)
  ·rw [if_pos c5] at H
   have c5b0 : decide (a2 < (l1_2.length : Int)) = true := decide_eq_true c5
   clear c5
   replace H := Option.bind_eq_some_iff.mp H
   obtain ⟨⟨af, ai, aj, ak, t173⟩, A60, H⟩ := H
   replace H : (if t173 = true then (if a2 < (l0.length : Int) then (some (af != ((rd_T40 l0 a2).f0))) else (none)) else (some true)) = some r := H
   have A6 := uZ A60
   clear A60
   by_cases c7 : t173 = true
   ·subst c7
    have H1 : (if a2 < (l0.length : Int) then (some (af != ((rd_T40 l0 a2).f0))) else (none)) = some r := by rw [if_pos rfl] at H; exact H
    clear H
    have H := H1
    clear H1
    by_cases c8 : a2 < (l0.length : Int)
    ·rw [if_pos c8] at H
     have c8b0 : decide (a2 < (l0.length : Int)) = true := decide_eq_true c8
     clear c8
     obtain rfl := Option.some.inj H
     go_enter Tryd.func34, Tryd.ntmps34
     try go_wp2_with (first | ((with_reducible refine gate_dst (N := 4) rfl ?_); refine box_event ?hg (N := 4) ?hd (cs := #[.slice A1_0 l1_0.length c1_0, .slice A1_1 l1_1.length c1_1, .slice A1_2 l1_2.length c1_2, .int .i64 a1_3]) (t := 27) ?hr ?_; (case hd => rfl); (case hg => rfl); (case hr => first | (go_simp; done) | (go_simp; rfl)); intro a9 hg w9 hbox hb; have n0_ := uZ (zP (uB HB.out) hb); have n1_ := uZ (hbox); have n2_ := uZ ((by rw [hg]; exact (zO (uB HB.out)) : w.heap.size ≤ a9)); have n3_ := uZ ((by rw [hg]; exact (zO (uB HB.out)) : w.heap.size ≤ a9)); clear HB; have HB := n0_; have a8 := n1_; have GW167 := n2_; have ae := n3_; clear n0_ n1_ n2_ n3_; clear hb hbox hg))
     have n0_ := uZ (zF a8.out)
     have n1_ := uZ (zJ HB.out)
     clear a8
     clear HB
     have a8 := n0_
     have HB := n1_
     clear n0_ n1_
     have p168 : 0 ≤ (a2 : Int) := of_decide_eq_true (by first | (with_reducible assumption) | assumption)
     have q168 : a2 < (l1_2.length : Int) := of_decide_eq_true (by first | (with_reducible assumption) | assumption)
     obtain ⟨ad, e168, ag⟩ := Kd.at_int HR1_2.out a2 p168 q168
     have hw168_0 := ag
     cases e168
     replace ag := (HB.out.cell (zQ w _ ag)).trans ag
     replace p168 := eq_true p168
     replace q168 := eq_true q168
     refine start_ (n := 13) (S := fun w' => w'.cell? ⟨a9, 0, none⟩ = some (.slice A1_0 l1_0.length c1_0) ∧ w'.cell? ⟨a9, 1, none⟩ = some (.slice A1_1 l1_1.length c1_1) ∧ w'.cell? ⟨a9, 2, none⟩ = some (.slice (some ad) l1_2.length c1_2) ∧ w'.cell? ⟨a9, 3, none⟩ = some (.int .i64 a1_3) ∧ w'.cell? (ad.add (a2).toNat) = some (.int .i64 (rd l1_2 a2))) (ds := []) #[false, false, false, false, false, false, false, false, false, false, false, false, false] (by kernel_rfl) rfl rfl ⟨(zL a8.out 0).trans rfl, (zL a8.out 1).trans rfl, (zL a8.out 2).trans rfl, (zL a8.out 3).trans rfl, ((HB.out.cell (zQ w _ hw168_0)).trans hw168_0)⟩ (fun hHeld => ?_); refine with_tabW switchbacklaw17_long.tab1 switchbacklaw17_long.bits1 (fun HT_ HW_ => ?_)
     generalize w9.drew = w10 at a8 HB ag hHeld ⊢
     refine pure_ (i := 1) (N := some 11) (v := ?_) (a' := ?_) #[false, true, false, false, false, false, false, false, false, false, false, false, false] rfl rfl (zV HT_.out (by kernel_rfl)) (fun _ _ _ h => h) (Or.inl ⟨by rfl, ?_⟩) ?_ ?_
     rotate_left
     ·intro w'
      go_simp
      with_reducible rfl
     rotate_left
     ·simp only [Act.put, zR, zS, zT, i64_w, i32_w]
      rfl
     refine pure_ (i := 3) (N := some 13) (v := ?_) (a' := ?_) #[false, true, false, true, false, false, false, false, false, false, false, false, false] rfl rfl (zV HT_.out (by kernel_rfl)) (fun _ _ _ h => h) (Or.inl ⟨by rfl, ?_⟩) ?_ ?_
     rotate_left
     ·intro w'
      go_simp
      with_reducible rfl
     rotate_left
     ·simp only [Act.put, zR, zS, zT, i64_w, i32_w]
      rfl
     refine take_ (i := 0) (N := some 10) (v := ?_) (a' := ?_) #[true, true, false, true, false, false, false, false, false, false, false, false, false] rfl rfl (take_ofW HT_.out HW_.out (by kernel_rfl)) (fun _ _ _ h => h) (Or.inl ⟨by rfl, ?_⟩) hHeld ?_ ?_
     rotate_left
     ·rintro w' ⟨s0, s1, s2, s3, s4⟩
      go_simp
      with_reducible rfl
     rotate_left
     ·simp only [Act.put, zR, zS, zT, i64_w, i32_w]
      rfl
     refine take_ (i := 2) (N := some 12) (v := ?_) (a' := ?_) #[true, true, true, true, false, false, false, false, false, false, false, false, false] rfl rfl (take_ofW HT_.out HW_.out (by kernel_rfl)) (fun _ _ _ h => h) (Or.inl ⟨by rfl, ?_⟩) hHeld ?_ ?_
     rotate_left
     ·rintro w' ⟨s0, s1, s2, s3, s4⟩
      go_simp
      with_reducible rfl
     rotate_left
     ·simp only [Act.put, zR, zS, zT, i64_w, i32_w]
      rfl
     refine pure_ (i := 4) (N := some 14) (v := ?_) (a' := ?_) #[true, true, true, true, true, false, false, false, false, false, false, false, false] rfl rfl (zV HT_.out (by kernel_rfl)) (fun _ _ _ h => h) (Or.inl ⟨by rfl, ?_⟩) ?_ ?_
     rotate_left
     ·intro w'
      go_simp
      with_reducible rfl
     rotate_left
     ·simp only [Act.put, zR, zS, zT, i64_w, i32_w]
      rfl
     refine take_ (i := 5) (N := some 15) (v := ?_) (a' := ?_) #[true, true, true, true, true, true, false, false, false, false, false, false, false] rfl rfl (take_ofW HT_.out HW_.out (by kernel_rfl)) (fun _ _ _ h => h) (Or.inl ⟨by rfl, ?_⟩) hHeld ?_ ?_
     rotate_left
     ·rintro w' ⟨s0, s1, s2, s3, s4⟩
      go_simp
      with_reducible rfl
     rotate_left
     ·simp only [Act.put, zR, zS, zT, i64_w, i32_w]
      rfl
     refine join_ (σ := Nat) 2 #[true, true, true, true, true, true, true, true, true, true, true, false, false] (fun s_ => [(16, .tuple #[.agg #[.int .i64 af, .int .i64 ai, .int .i64 aj, .int .i64 ak], .bool true]), (7, .pointer (some ⟨s_, 0, none⟩)), (9, .tuple #[.agg #[.int .i64 af, .int .i64 ai, .int .i64 aj, .int .i64 ak], .bool true]), (17, .agg #[.int .i64 af, .int .i64 ai, .int .i64 aj, .int .i64 ak]), (18, .bool true)]) (fun s_ w' => (w'.cell? ⟨a9, 0, none⟩ = some (.slice A1_0 l1_0.length c1_0) ∧ w'.cell? ⟨a9, 1, none⟩ = some (.slice A1_1 l1_1.length c1_1) ∧ w'.cell? ⟨a9, 2, none⟩ = some (.slice (some ad) l1_2.length c1_2) ∧ w'.cell? ⟨a9, 3, none⟩ = some (.int .i64 a1_3) ∧ w'.cell? (ad.add (a2).toNat) = some (.int .i64 (rd l1_2 a2))) ∧ (w'.heap[a9]? = some (.cells #[.slice A1_0 l1_0.length c1_0, .slice A1_1 l1_1.length c1_1, .slice (some ad) l1_2.length c1_2, .int .i64 a1_3] 27 (0, 0))) ∧ (w'.heap[s_]? = some (.cells #[.int .i64 0, .int .i64 0, .int .i64 0, .int .i64 0] 44 (0, 0))) ∧ (w.heap.size ≤ s_) ∧ (w.heap.size ≤ s_) ∧ (a9 ≠ s_) ∧ (s_ ≠ a9) ∧ (Below w.heap.size w w')) ?_ ?_
     rotate_left
     ·intro hCont
      refine two_ (i := 6) (j := 10) (Ni := some 16) (Nj := some 7) #[true, true, true, true, true, true, true, false, false, false, false, false, false] #[true, true, true, true, true, true, false, false, false, false, true, false, false] rfl rfl rfl rfl (two_of HT_.out (by kernel_rfl)) (by decide) (by decide) (fun K hK => ?_) (fun K hK => ?_)
      ·skip
       refine goes_ Tryd.func33 (by kernel_rfl) rfl #[.agg #[.slice A1_0 l1_0.length c1_0, .slice A1_1 l1_1.length c1_1, .slice (some ad) l1_2.length c1_2, .int .i64 a1_3], .int .i64 (rd l1_2 a2)] (by rfl) rfl rfl (by (try simp only [List.map_toArray, List.map_cons, List.map_nil]); first | done | rfl | (simp only [List.length_drop, List.length_take]; rfl)) ?_
       with_reducible refine (switchbacklaw17_code.calls k _ _ l1_0 _ _ l1_1 _ _ l1_2 a1_3 (rd l1_2 a2) af ai aj ak true _ ?side1 ?side2 ?side3 ?side4 ?side5 ?side6 (uZ (hLaid_.out.below (by repeat (first | (with_reducible first | exact HB.out | apply zI | apply zH | apply zJ) | refine zN ?_ (Aside0.out (by assumption)) | exact HB.out)))) A6.out).mono ?_
       (case side1 => repeat (first | exact (zD HR1_0.out HB.out) | (with_reducible refine zA ?_ _) | (with_reducible refine zB ?_ _) | (with_reducible refine zC ?_)))
       (case side2 => exact HC1_0.out)
       (case side3 => repeat (first | exact (zD HR1_1.out HB.out) | (with_reducible refine zA ?_ _) | (with_reducible refine zB ?_ _) | (with_reducible refine zC ?_)))
       (case side4 => exact HC1_1.out)
       (case side5 => repeat (first | exact (zD HR1_2.out HB.out) | (with_reducible refine zA ?_ _) | (with_reducible refine zB ?_ _) | (with_reducible refine zC ?_)))
       (case side6 => exact HC1_2.out)
       rintro e w11 ⟨rfl, hb⟩
       refine ⟨_, rfl, ?_⟩
       have n0_ := uZ (zM (g := a9) (o := .cells #[.slice A1_0 l1_0.length c1_0, .slice A1_1 l1_1.length c1_1, .slice (some ad) l1_2.length c1_2, .int .i64 a1_3] 27 (0, 0)) (uK a8.out) hb)
       have n1_ := uZ (zP (uC HB.out ae.out) hb)
       clear a8
       clear HB
       have a8 := n0_
       have HB := n1_
       clear n0_ n1_
       (try clear hb)
       (try clear hb2)
       (try clear hk)
       (try clear hi)
       refine hK.out _ _ ⟨(zL a8.out 0).trans rfl, (zL a8.out 1).trans rfl, (zL a8.out 2).trans rfl, (zL a8.out 3).trans rfl, ((HB.out.cell (zQ w _ hw168_0)).trans hw168_0)⟩ (fun hHeld => ?_)
       clear hK K
       refine norm_ (a' := ?_) ?_ ?_
       rotate_left
       ·show Act.put _ (some 16) _ = _
        simp only [Act.put, zR, zS, zT, i64_w, i32_w]
        rfl
       refine pure_ (i := 7) (N := some 9) (v := ?_) (a' := ?_) #[true, true, true, true, true, true, true, true, false, false, false, false, false] rfl rfl (zV HT_.out (by kernel_rfl)) (fun _ _ _ h => h) (Or.inl ⟨by rfl, ?_⟩) ?_ ?_
       rotate_left
       ·intro w'
        go_simp
        with_reducible rfl
       rotate_left
       ·simp only [Act.put, zR, zS, zT, i64_w, i32_w]
        rfl
       refine pure_ (i := 8) (N := some 17) (v := ?_) (a' := ?_) #[true, true, true, true, true, true, true, true, true, false, false, false, false] rfl rfl (zV HT_.out (by kernel_rfl)) (fun _ _ _ h => h) (Or.inl ⟨by rfl, ?_⟩) ?_ ?_
       rotate_left
       ·intro w'
        go_simp
        with_reducible rfl
       rotate_left
       ·simp only [Act.put, zR, zS, zT, i64_w, i32_w]
        rfl
       refine pure_ (i := 9) (N := some 18) (v := ?_) (a' := ?_) #[true, true, true, true, true, true, true, true, true, true, false, false, false] rfl rfl (zV HT_.out (by kernel_rfl)) (fun _ _ _ h => h) (Or.inl ⟨by rfl, ?_⟩) ?_ ?_
       rotate_left
       ·intro w'
        go_simp
        with_reducible rfl
       rotate_left
       ·simp only [Act.put, zR, zS, zT, i64_w, i32_w]
        rfl
       refine one_ (i := 10) (N := some 7) #[true, true, true, true, true, true, true, true, true, true, true, false, false] rfl rfl (one_of HT_.out (by kernel_rfl)) (by decide) (fun K hK => ?_)
       refine box_step ?hg (N := 7) ?hd (cs := #[.int .i64 0, .int .i64 0, .int .i64 0, .int .i64 0]) (t := 44) ?hr ?_; (case hd => rfl); (case hg => rfl); (case hr => first | (go_simp; done) | (go_simp; rfl))
       intro a7 hg w12 hbox hb
       have n0_ := uZ (zM (g := a9) (o := .cells #[.slice A1_0 l1_0.length c1_0, .slice A1_1 l1_1.length c1_1, .slice (some ad) l1_2.length c1_2, .int .i64 a1_3] 27 (0, 0)) (uK a8.out) hb)
       have n1_ := uZ (zP (uC HB.out ae.out) hb)
       have n2_ := uZ (hbox)
       have n3_ := uZ ((by rw [hg]; exact (zO (uC HB.out ae.out)) : w.heap.size ≤ a7))
       have n4_ := uZ ((by rw [hg]; exact (zO (uC HB.out ae.out)) : w.heap.size ≤ a7))
       have n5_ := uZ ((by rw [hg]; exact Nat.ne_of_lt (blk_lt (g := a9) (o := .cells #[.slice A1_0 l1_0.length c1_0, .slice A1_1 l1_1.length c1_1, .slice (some ad) l1_2.length c1_2, .int .i64 a1_3] 27 (0, 0)) (uK a8.out)) : a9 ≠ a7))
       have n6_ := uZ ((by rw [hg]; exact Nat.ne_of_gt (blk_lt (g := a9) (o := .cells #[.slice A1_0 l1_0.length c1_0, .slice A1_1 l1_1.length c1_1, .slice (some ad) l1_2.length c1_2, .int .i64 a1_3] 27 (0, 0)) (uK a8.out)) : a7 ≠ a9))
       clear a8
       clear HB
       have a8 := n0_
       have HB := n1_
       have aa := n2_
       have ab := n3_
       have ah := n4_
       have a6 := n5_
       have ac := n6_
       clear n0_ n1_ n2_ n3_ n4_ n5_ n6_
       clear hb hbox hg
       refine hK.out _ _ ⟨(zL a8.out 0).trans rfl, (zL a8.out 1).trans rfl, (zL a8.out 2).trans rfl, (zL a8.out 3).trans rfl, ((HB.out.cell (zQ w _ hw168_0)).trans hw168_0)⟩ (fun hHeld => ?_)
       clear hK K
       refine norm_ (a' := ?_) ?_ ?_
       rotate_left
       ·show Act.put _ (some 7) _ = _
        simp only [Act.put, zR, zS, zT, i64_w, i32_w]
        rfl
       exact norm_ (by simp only [putAll, Act.put, zR, zS, zT]) (hCont (a7) _ ⟨hHeld, (uK a8.out), (uK aa.out), ab.out, ah.out, a6.out, ac.out, (uD HB.out ae.out ah.out)⟩)
      skip
      refine box_step ?hg (N := 7) ?hd (cs := #[.int .i64 0, .int .i64 0, .int .i64 0, .int .i64 0]) (t := 44) ?hr ?_; (case hd => rfl); (case hg => rfl); (case hr => first | (go_simp; done) | (go_simp; rfl))
      intro a7 hg w11 hbox hb
      have n0_ := uZ (zM (g := a9) (o := .cells #[.slice A1_0 l1_0.length c1_0, .slice A1_1 l1_1.length c1_1, .slice (some ad) l1_2.length c1_2, .int .i64 a1_3] 27 (0, 0)) (uK a8.out) hb)
      have n1_ := uZ (zP (uC HB.out ae.out) hb)
      have n2_ := uZ (hbox)
      have n3_ := uZ ((by rw [hg]; exact (zO (uC HB.out ae.out)) : w.heap.size ≤ a7))
      have n4_ := uZ ((by rw [hg]; exact (zO (uC HB.out ae.out)) : w.heap.size ≤ a7))
      have n5_ := uZ ((by rw [hg]; exact Nat.ne_of_lt (blk_lt (g := a9) (o := .cells #[.slice A1_0 l1_0.length c1_0, .slice A1_1 l1_1.length c1_1, .slice (some ad) l1_2.length c1_2, .int .i64 a1_3] 27 (0, 0)) (uK a8.out)) : a9 ≠ a7))
      have n6_ := uZ ((by rw [hg]; exact Nat.ne_of_gt (blk_lt (g := a9) (o := .cells #[.slice A1_0 l1_0.length c1_0, .slice A1_1 l1_1.length c1_1, .slice (some ad) l1_2.length c1_2, .int .i64 a1_3] 27 (0, 0)) (uK a8.out)) : a7 ≠ a9))
      clear a8
      clear HB
      have a8 := n0_
      have HB := n1_
      have aa := n2_
      have ab := n3_
      have ah := n4_
      have a6 := n5_
      have ac := n6_
      clear n0_ n1_ n2_ n3_ n4_ n5_ n6_
      clear hb hbox hg
      refine hK.out _ _ ⟨(zL a8.out 0).trans rfl, (zL a8.out 1).trans rfl, (zL a8.out 2).trans rfl, (zL a8.out 3).trans rfl, ((HB.out.cell (zQ w _ hw168_0)).trans hw168_0)⟩ (fun hHeld => ?_)
      clear hK K
      refine norm_ (a' := ?_) ?_ ?_
      rotate_left
      ·show Act.put _ (some 7) _ = _
       simp only [Act.put, zR, zS, zT, i64_w, i32_w]
       rfl
      refine one_ (i := 6) (N := some 16) #[true, true, true, true, true, true, true, false, false, false, true, false, false] rfl rfl (one_of HT_.out (by kernel_rfl)) (by decide) (fun K hK => ?_)
      refine goes_ Tryd.func33 (by kernel_rfl) rfl #[.agg #[.slice A1_0 l1_0.length c1_0, .slice A1_1 l1_1.length c1_1, .slice (some ad) l1_2.length c1_2, .int .i64 a1_3], .int .i64 (rd l1_2 a2)] (by rfl) rfl rfl (by (try simp only [List.map_toArray, List.map_cons, List.map_nil]); first | done | rfl | (simp only [List.length_drop, List.length_take]; rfl)) ?_
      with_reducible refine (switchbacklaw17_code.calls k _ _ l1_0 _ _ l1_1 _ _ l1_2 a1_3 (rd l1_2 a2) af ai aj ak true _ ?side1 ?side2 ?side3 ?side4 ?side5 ?side6 (uZ (hLaid_.out.below (by repeat (first | (with_reducible first | exact HB.out | apply zI | apply zH | apply zJ) | refine zN ?_ (Aside0.out (by assumption)) | exact HB.out)))) A6.out).mono ?_
      (case side1 => repeat (first | exact (zD HR1_0.out HB.out) | (with_reducible refine zA ?_ _) | (with_reducible refine zB ?_ _) | (with_reducible refine zC ?_)))
      (case side2 => exact HC1_0.out)
      (case side3 => repeat (first | exact (zD HR1_1.out HB.out) | (with_reducible refine zA ?_ _) | (with_reducible refine zB ?_ _) | (with_reducible refine zC ?_)))
      (case side4 => exact HC1_1.out)
      (case side5 => repeat (first | exact (zD HR1_2.out HB.out) | (with_reducible refine zA ?_ _) | (with_reducible refine zB ?_ _) | (with_reducible refine zC ?_)))
      (case side6 => exact HC1_2.out)
      rintro e w12 ⟨rfl, hb⟩
      refine ⟨_, rfl, ?_⟩
      have n0_ := uZ (zM (g := a9) (o := .cells #[.slice A1_0 l1_0.length c1_0, .slice A1_1 l1_1.length c1_1, .slice (some ad) l1_2.length c1_2, .int .i64 a1_3] 27 (0, 0)) (uK a8.out) hb)
      have n1_ := uZ (zM (g := a7) (o := .cells #[.int .i64 0, .int .i64 0, .int .i64 0, .int .i64 0] 44 (0, 0)) (uK aa.out) hb)
      have n2_ := uZ (zP (uD HB.out ae.out ah.out) hb)
      clear a8
      clear aa
      clear HB
      have a8 := n0_
      have aa := n1_
      have HB := n2_
      clear n0_ n1_ n2_
      (try clear hb)
      (try clear hb2)
      (try clear hk)
      (try clear hi)
      refine hK.out _ _ ⟨(zL a8.out 0).trans rfl, (zL a8.out 1).trans rfl, (zL a8.out 2).trans rfl, (zL a8.out 3).trans rfl, ((HB.out.cell (zQ w _ hw168_0)).trans hw168_0)⟩ (fun hHeld => ?_)
      clear hK K
      refine norm_ (a' := ?_) ?_ ?_
      rotate_left
      ·show Act.put _ (some 16) _ = _
       simp only [Act.put, zR, zS, zT, i64_w, i32_w]
       rfl
      refine pure_ (i := 7) (N := some 9) (v := ?_) (a' := ?_) #[true, true, true, true, true, true, true, true, false, false, true, false, false] rfl rfl (zV HT_.out (by kernel_rfl)) (fun _ _ _ h => h) (Or.inl ⟨by rfl, ?_⟩) ?_ ?_
      rotate_left
      ·intro w'
       go_simp
       with_reducible rfl
      rotate_left
      ·simp only [Act.put, zR, zS, zT, i64_w, i32_w]
       rfl
      refine pure_ (i := 8) (N := some 17) (v := ?_) (a' := ?_) #[true, true, true, true, true, true, true, true, true, false, true, false, false] rfl rfl (zV HT_.out (by kernel_rfl)) (fun _ _ _ h => h) (Or.inl ⟨by rfl, ?_⟩) ?_ ?_
      rotate_left
      ·intro w'
       go_simp
       with_reducible rfl
      rotate_left
      ·simp only [Act.put, zR, zS, zT, i64_w, i32_w]
       rfl
      refine pure_ (i := 9) (N := some 18) (v := ?_) (a' := ?_) #[true, true, true, true, true, true, true, true, true, true, true, false, false] rfl rfl (zV HT_.out (by kernel_rfl)) (fun _ _ _ h => h) (Or.inl ⟨by rfl, ?_⟩) ?_ ?_
      rotate_left
      ·intro w'
       go_simp
       with_reducible rfl
      rotate_left
      ·simp only [Act.put, zR, zS, zT, i64_w, i32_w]
       rfl
      exact norm_ (by simp only [putAll, Act.put, zR, zS, zT]) (hCont (a7) _ ⟨hHeld, (uK a8.out), (uK aa.out), ab.out, ah.out, a6.out, ac.out, (uD HB.out ae.out ah.out)⟩)
     rintro a7 w13 ⟨hS_, h0_, h1_, h2_, h3_, h4_, h5_, h6_⟩
     have n0_ : Aside0 (w13.heap[a9]? = some (.cells #[.slice A1_0 l1_0.length c1_0, .slice A1_1 l1_1.length c1_1, .slice (some ad) l1_2.length c1_2, .int .i64 a1_3] 27 (0, 0))) := ⟨h0_⟩
     have n1_ : Aside0 (w13.heap[a7]? = some (.cells #[.int .i64 0, .int .i64 0, .int .i64 0, .int .i64 0] 44 (0, 0))) := ⟨h1_⟩
     have n2_ : Aside0 (w.heap.size ≤ a7) := ⟨h2_⟩
     have n3_ : Aside0 (w.heap.size ≤ a7) := ⟨h3_⟩
     have n4_ : Aside0 (a9 ≠ a7) := ⟨h4_⟩
     have n5_ : Aside0 (a7 ≠ a9) := ⟨h5_⟩
     have n6_ : Aside0 (Below w.heap.size w w13) := ⟨h6_⟩
     clear a8
     clear HB
     clear h0_ h1_ h2_ h3_ h4_ h5_ h6_
     have a8 := n0_
     have aa := n1_
     have ab := n2_
     have ah := n3_
     have a6 := n4_
     have ac := n5_
     have HB := n6_
     clear n0_ n1_ n2_ n3_ n4_ n5_ n6_
     have hHeld : w13.cell? ⟨a9, 0, none⟩ = some (.slice A1_0 l1_0.length c1_0) ∧ w13.cell? ⟨a9, 1, none⟩ = some (.slice A1_1 l1_1.length c1_1) ∧ w13.cell? ⟨a9, 2, none⟩ = some (.slice (some ad) l1_2.length c1_2) ∧ w13.cell? ⟨a9, 3, none⟩ = some (.int .i64 a1_3) ∧ w13.cell? (ad.add (a2).toNat) = some (.int .i64 (rd l1_2 a2)) := hS_
     refine norm_ (a' := ?_) ?_ ?_
     rotate_left
     ·simp only [putAll, Act.put, zR, zS, zT]
      rfl
     refine one_ (i := 11) (N := none) #[true, true, true, true, true, true, true, true, true, true, true, true, false] rfl rfl (one_of HT_.out (by kernel_rfl)) (by decide) (fun K hK => ?_)
     have hs14 : w13.cell? ⟨a7, 0, none⟩ = some (.int .i64 0) := (zL aa.out 0).trans rfl
     have hfs14 := zK aa.out 0
     have hns14_0 := a6.out
     have hms14_0 := ac.out
     have hs15 : w13.cell? ⟨a7, 1, none⟩ = some (.int .i64 0) := (zL aa.out 1).trans rfl
     have hfs15 := zK aa.out 1
     have hns15_0 := a6.out
     have hms15_0 := ac.out
     have hs16 : w13.cell? ⟨a7, 2, none⟩ = some (.int .i64 0) := (zL aa.out 2).trans rfl
     have hfs16 := zK aa.out 2
     have hns16_0 := a6.out
     have hms16_0 := ac.out
     have hs17 : w13.cell? ⟨a7, 3, none⟩ = some (.int .i64 0) := (zL aa.out 3).trans rfl
     have hfs17 := zK aa.out 3
     have hns17_0 := a6.out
     have hms17_0 := ac.out
     refine skip_ (w1 := ?_) (by rfl) rfl ?_ ?_
     rotate_left
     ·go_simp
      rfl
     refine hK.out _ _ ⟨((zU (p := ⟨a7, _, none⟩) a6.out _).trans (((zU (p := ⟨a7, _, none⟩) a6.out _).trans (((zU (p := ⟨a7, _, none⟩) a6.out _).trans (((zU (p := ⟨a7, _, none⟩) a6.out _).trans (hHeld.1)))))))), ((zU (p := ⟨a7, _, none⟩) a6.out _).trans (((zU (p := ⟨a7, _, none⟩) a6.out _).trans (((zU (p := ⟨a7, _, none⟩) a6.out _).trans (((zU (p := ⟨a7, _, none⟩) a6.out _).trans (hHeld.2.1)))))))), ((zU (p := ⟨a7, _, none⟩) a6.out _).trans (((zU (p := ⟨a7, _, none⟩) a6.out _).trans (((zU (p := ⟨a7, _, none⟩) a6.out _).trans (((zU (p := ⟨a7, _, none⟩) a6.out _).trans (hHeld.2.2.1)))))))), ((zU (p := ⟨a7, _, none⟩) a6.out _).trans (((zU (p := ⟨a7, _, none⟩) a6.out _).trans (((zU (p := ⟨a7, _, none⟩) a6.out _).trans (((zU (p := ⟨a7, _, none⟩) a6.out _).trans (hHeld.2.2.2.1)))))))), ((zU (p := ⟨a7, _, none⟩) (by first | exact Nat.ne_of_lt (Nat.lt_of_lt_of_le (by have := zQ _ _ hw168_0; first | rwa [add_block] at this | exact this) ab.out) | (rw [add_block]; exact Nat.ne_of_lt (Nat.lt_of_lt_of_le (by have := zQ _ _ hw168_0; first | rwa [add_block] at this | exact this) ab.out)) | (show (Addr.add _ _).block ≠ _; rw [add_block]; exact Nat.ne_of_lt (Nat.lt_of_lt_of_le (by have := zQ _ _ hw168_0; first | rwa [add_block] at this | exact this) ab.out)) | (dsimp only; exact Nat.ne_of_lt (Nat.lt_of_lt_of_le (by have := zQ _ _ hw168_0; first | rwa [add_block] at this | exact this) ab.out))) _).trans (((zU (p := ⟨a7, _, none⟩) (by first | exact Nat.ne_of_lt (Nat.lt_of_lt_of_le (by have := zQ _ _ hw168_0; first | rwa [add_block] at this | exact this) ab.out) | (rw [add_block]; exact Nat.ne_of_lt (Nat.lt_of_lt_of_le (by have := zQ _ _ hw168_0; first | rwa [add_block] at this | exact this) ab.out)) | (show (Addr.add _ _).block ≠ _; rw [add_block]; exact Nat.ne_of_lt (Nat.lt_of_lt_of_le (by have := zQ _ _ hw168_0; first | rwa [add_block] at this | exact this) ab.out)) | (dsimp only; exact Nat.ne_of_lt (Nat.lt_of_lt_of_le (by have := zQ _ _ hw168_0; first | rwa [add_block] at this | exact this) ab.out))) _).trans (((zU (p := ⟨a7, _, none⟩) (by first | exact Nat.ne_of_lt (Nat.lt_of_lt_of_le (by have := zQ _ _ hw168_0; first | rwa [add_block] at this | exact this) ab.out) | (rw [add_block]; exact Nat.ne_of_lt (Nat.lt_of_lt_of_le (by have := zQ _ _ hw168_0; first | rwa [add_block] at this | exact this) ab.out)) | (show (Addr.add _ _).block ≠ _; rw [add_block]; exact Nat.ne_of_lt (Nat.lt_of_lt_of_le (by have := zQ _ _ hw168_0; first | rwa [add_block] at this | exact this) ab.out)) | (dsimp only; exact Nat.ne_of_lt (Nat.lt_of_lt_of_le (by have := zQ _ _ hw168_0; first | rwa [add_block] at this | exact this) ab.out))) _).trans (((zU (p := ⟨a7, _, none⟩) (by first | exact Nat.ne_of_lt (Nat.lt_of_lt_of_le (by have := zQ _ _ hw168_0; first | rwa [add_block] at this | exact this) ab.out) | (rw [add_block]; exact Nat.ne_of_lt (Nat.lt_of_lt_of_le (by have := zQ _ _ hw168_0; first | rwa [add_block] at this | exact this) ab.out)) | (show (Addr.add _ _).block ≠ _; rw [add_block]; exact Nat.ne_of_lt (Nat.lt_of_lt_of_le (by have := zQ _ _ hw168_0; first | rwa [add_block] at this | exact this) ab.out)) | (dsimp only; exact Nat.ne_of_lt (Nat.lt_of_lt_of_le (by have := zQ _ _ hw168_0; first | rwa [add_block] at this | exact this) ab.out))) _).trans (hHeld.2.2.2.2))))))))⟩ (fun hHeld => ?_)
     clear hK K
     refine pure_ (i := 12) (N := some 8) (v := ?_) (a' := ?_) #[true, true, true, true, true, true, true, true, true, true, true, true, true] rfl rfl (zV HT_.out (by kernel_rfl)) (fun _ _ _ h => h) (Or.inl ⟨by rfl, ?_⟩) ?_ ?_
     rotate_left
     ·intro w'
      go_simp
      with_reducible rfl
     rotate_left
     ·simp only [Act.put, zR, zS, zT, i64_w, i32_w]
      rfl
     refine done_ (done_of HT_.out (by kernel_rfl)) ?_
     try go_wp2
     have n0_ : Aside0 (((((w13.setCell ⟨a7, 0, none⟩ (.int .i64 af)).setCell ⟨a7, 1, none⟩ (.int .i64 ai)).setCell ⟨a7, 2, none⟩ (.int .i64 aj)).setCell ⟨a7, 3, none⟩ (.int .i64 ak)).heap[a9]? = some (.cells #[.slice A1_0 l1_0.length c1_0, .slice A1_1 l1_1.length c1_1, .slice (some ad) l1_2.length c1_2, .int .i64 a1_3] 27 (0, 0))) := ⟨by (with_reducible repeat (first | apply zE | apply zF | apply zG)); refine blk_far ?_ a6.out _; (with_reducible repeat (first | apply zE | apply zF | apply zG)); refine blk_far ?_ a6.out _; (with_reducible repeat (first | apply zE | apply zF | apply zG)); refine blk_far ?_ a6.out _; (with_reducible repeat (first | apply zE | apply zF | apply zG)); refine blk_far ?_ a6.out _; (with_reducible repeat (first | apply zE | apply zF | apply zG)); exact a8.out⟩
     have n1_ : Aside0 (((((w13.setCell ⟨a7, 0, none⟩ (.int .i64 af)).setCell ⟨a7, 1, none⟩ (.int .i64 ai)).setCell ⟨a7, 2, none⟩ (.int .i64 aj)).setCell ⟨a7, 3, none⟩ (.int .i64 ak)).heap[a7]? = some (.cells #[.int .i64 af, .int .i64 ai, .int .i64 aj, .int .i64 ak] 44 (0, 0))) := ⟨by (with_reducible repeat (first | apply zE | apply zF | apply zG)); refine blk_put (cs := #[.int .i64 af, .int .i64 ai, .int .i64 aj, .int .i64 0]) ?_ 3 _ rfl; (with_reducible repeat (first | apply zE | apply zF | apply zG)); refine blk_put (cs := #[.int .i64 af, .int .i64 ai, .int .i64 0, .int .i64 0]) ?_ 2 _ rfl; (with_reducible repeat (first | apply zE | apply zF | apply zG)); refine blk_put (cs := #[.int .i64 af, .int .i64 0, .int .i64 0, .int .i64 0]) ?_ 1 _ rfl; (with_reducible repeat (first | apply zE | apply zF | apply zG)); refine blk_put (cs := #[.int .i64 0, .int .i64 0, .int .i64 0, .int .i64 0]) ?_ 0 _ rfl; (with_reducible repeat (first | apply zE | apply zF | apply zG)); exact aa.out⟩
     have n2_ : Aside0 (Below w.heap.size w ((((w13.setCell ⟨a7, 0, none⟩ (.int .i64 af)).setCell ⟨a7, 1, none⟩ (.int .i64 ai)).setCell ⟨a7, 2, none⟩ (.int .i64 aj)).setCell ⟨a7, 3, none⟩ (.int .i64 ak))) := ⟨uD HB.out ae.out ah.out⟩
     (try clear a8)
     (try clear aa)
     (try clear HB)
     generalize ((((w13.setCell ⟨a7, 0, none⟩ (.int .i64 af)).setCell ⟨a7, 1, none⟩ (.int .i64 ai)).setCell ⟨a7, 2, none⟩ (.int .i64 aj)).setCell ⟨a7, 3, none⟩ (.int .i64 ak)) = w18 at n0_ n1_ n2_ ⊢
     have a8 := n0_
     have aa := n1_
     have HB := n2_
     clear n0_ n1_ n2_
     have n0_ := uZ (zF a8.out)
     have n1_ := uZ (zF aa.out)
     have n2_ := uZ (zJ HB.out)
     clear a8
     clear aa
     clear HB
     have a8 := n0_
     have aa := n1_
     have HB := n2_
     clear n0_ n1_ n2_
     have p175 : 0 ≤ (a2 : Int) := of_decide_eq_true (by first | (with_reducible assumption) | assumption)
     have q175 : a2 < (l0.length : Int) := of_decide_eq_true (by first | (with_reducible assumption) | assumption)
     obtain ⟨al, A175_6, c175_6, e175, am, an, ao, ap, aq, ar, au, hl175_6, hi175_6⟩ := at_T40 HR0.out a2 p175 q175
     have hw175_6 := au
     have hw175_5 := ar
     have hw175_4 := aq
     have hw175_3 := ap
     have hw175_2 := ao
     have hw175_1 := an
     have hw175_0 := am
     cases e175
     replace am := (HB.out.cell (zQ w _ am)).trans am
     replace an := (HB.out.cell (zQ w _ an)).trans an
     replace ao := (HB.out.cell (zQ w _ ao)).trans ao
     replace ap := (HB.out.cell (zQ w _ ap)).trans ap
     replace aq := (HB.out.cell (zQ w _ aq)).trans aq
     replace ar := (HB.out.cell (zQ w _ ar)).trans ar
     replace au := (HB.out.cell (zQ w _ au)).trans au
     have HR175_6 := uZ hi175_6
     have HC175_6 := uZ hl175_6
     clear hi175_6 hl175_6
     replace p175 := eq_true p175
     replace q175 := eq_true q175
     refine start_ (n := 13) (S := fun w' => w'.cell? ⟨a7, 0, none⟩ = some (.int .i64 af) ∧ w'.cell? ⟨a7, 1, none⟩ = some (.int .i64 ai) ∧ w'.cell? ⟨a7, 2, none⟩ = some (.int .i64 aj) ∧ w'.cell? ⟨a7, 3, none⟩ = some (.int .i64 ak) ∧ w'.cell? (al.add ((a2).toNat * 7)) = some (.int .i64 ((rd_T40 l0 a2).f0)) ∧ w'.cell? ⟨(al.add ((a2).toNat * 7)).block, (al.add ((a2).toNat * 7)).off + 1, none⟩ = some (.int .i64 ((rd_T40 l0 a2).f1)) ∧ w'.cell? ⟨(al.add ((a2).toNat * 7)).block, (al.add ((a2).toNat * 7)).off + 2, none⟩ = some (.int .i64 ((rd_T40 l0 a2).f2)) ∧ w'.cell? ⟨(al.add ((a2).toNat * 7)).block, (al.add ((a2).toNat * 7)).off + 3, none⟩ = some (.int .i64 ((rd_T40 l0 a2).f3)) ∧ w'.cell? ⟨(al.add ((a2).toNat * 7)).block, (al.add ((a2).toNat * 7)).off + 4, none⟩ = some (.int .u32 ((rd_T40 l0 a2).f4)) ∧ w'.cell? ⟨(al.add ((a2).toNat * 7)).block, (al.add ((a2).toNat * 7)).off + 5, none⟩ = some (.int .i64 ((rd_T40 l0 a2).f5)) ∧ w'.cell? ⟨(al.add ((a2).toNat * 7)).block, (al.add ((a2).toNat * 7)).off + 6, none⟩ = some (.slice A175_6 ((rd_T40 l0 a2).f6).length c175_6)) (ds := []) #[false, false, false, false, false, false, false, false, false, false, false, false, false] (by kernel_rfl) rfl rfl ⟨(zL aa.out 0).trans rfl, (zL aa.out 1).trans rfl, (zL aa.out 2).trans rfl, (zL aa.out 3).trans rfl, ((HB.out.cell (zQ w _ hw175_0)).trans hw175_0), ((HB.out.cell (zQ w _ hw175_1)).trans hw175_1), ((HB.out.cell (zQ w _ hw175_2)).trans hw175_2), ((HB.out.cell (zQ w _ hw175_3)).trans hw175_3), ((HB.out.cell (zQ w _ hw175_4)).trans hw175_4), ((HB.out.cell (zQ w _ hw175_5)).trans hw175_5), ((HB.out.cell (zQ w _ hw175_6)).trans hw175_6)⟩ (fun hHeld => ?_); refine with_tabW switchbacklaw17_long.tab2 switchbacklaw17_long.bits2 (fun HT_ HW_ => ?_)
     generalize w18.drew = w19 at a8 aa HB HR175_6 am an ao ap aq ar au hHeld ⊢
     refine pure_ (i := 0) (N := some 19) (v := ?_) (a' := ?_) #[true, false, false, false, false, false, false, false, false, false, false, false, false] rfl rfl (zV HT_.out (by kernel_rfl)) (fun _ _ _ h => h) (Or.inl ⟨by rfl, ?_⟩) ?_ ?_
     rotate_left
     ·intro w'
      go_simp
      with_reducible rfl
     rotate_left
     ·simp only [Act.put, zR, zS, zT, i64_w, i32_w]
      rfl
     refine pure_ (i := 1) (N := some 20) (v := ?_) (a' := ?_) #[true, true, false, false, false, false, false, false, false, false, false, false, false] rfl rfl (zV HT_.out (by kernel_rfl)) (fun _ _ _ h => h) (Or.inl ⟨by rfl, ?_⟩) ?_ ?_
     rotate_left
     ·intro w'
      go_simp
      with_reducible rfl
     rotate_left
     ·simp only [Act.put, zR, zS, zT, i64_w, i32_w]
      rfl
     refine pure_ (i := 2) (N := some 21) (v := ?_) (a' := ?_) #[true, true, true, false, false, false, false, false, false, false, false, false, false] rfl rfl (zV HT_.out (by kernel_rfl)) (fun _ _ _ h => h) (Or.inl ⟨by rfl, ?_⟩) ?_ ?_
     rotate_left
     ·intro w'
      go_simp
      with_reducible rfl
     rotate_left
     ·simp only [Act.put, zR, zS, zT, i64_w, i32_w]
      rfl
     refine pure_ (i := 3) (N := some 22) (v := ?_) (a' := ?_) #[true, true, true, true, false, false, false, false, false, false, false, false, false] rfl rfl (zV HT_.out (by kernel_rfl)) (fun _ _ _ h => h) (Or.inl ⟨by rfl, ?_⟩) ?_ ?_
     rotate_left
     ·intro w'
      go_simp
      with_reducible rfl
     rotate_left
     ·simp only [Act.put, zR, zS, zT, i64_w, i32_w]
      rfl
     refine pure_ (i := 5) (N := some 24) (v := ?_) (a' := ?_) #[true, true, true, true, false, true, false, false, false, false, false, false, false] rfl rfl (zV HT_.out (by kernel_rfl)) (fun _ _ _ h => h) (Or.inl ⟨by rfl, ?_⟩) ?_ ?_
     rotate_left
     ·intro w'
      go_simp
      with_reducible rfl
     rotate_left
     ·simp only [Act.put, zR, zS, zT, i64_w, i32_w]
      rfl
     refine pure_ (i := 6) (N := some 25) (v := ?_) (a' := ?_) #[true, true, true, true, false, true, true, false, false, false, false, false, false] rfl rfl (zV HT_.out (by kernel_rfl)) (fun _ _ _ h => h) (Or.inl ⟨by rfl, ?_⟩) ?_ ?_
     rotate_left
     ·intro w'
      go_simp
      with_reducible rfl
     rotate_left
     ·simp only [Act.put, zR, zS, zT, i64_w, i32_w]
      rfl
     refine pure_ (i := 7) (N := some 26) (v := ?_) (a' := ?_) #[true, true, true, true, false, true, true, true, false, false, false, false, false] rfl rfl (zV HT_.out (by kernel_rfl)) (fun _ _ _ h => h) (Or.inl ⟨by rfl, ?_⟩) ?_ ?_
     rotate_left
     ·intro w'
      go_simp
      with_reducible rfl
     rotate_left
     ·simp only [Act.put, zR, zS, zT, i64_w, i32_w]
      rfl
     refine pure_ (i := 8) (N := some 27) (v := ?_) (a' := ?_) #[true, true, true, true, false, true, true, true, true, false, false, false, false] rfl rfl (zV HT_.out (by kernel_rfl)) (fun _ _ _ h => h) (Or.inl ⟨by rfl, ?_⟩) ?_ ?_
     rotate_left
     ·intro w'
      go_simp
      with_reducible rfl
     rotate_left
     ·simp only [Act.put, zR, zS, zT, i64_w, i32_w]
      rfl
     refine take_ (i := 4) (N := some 23) (v := ?_) (a' := ?_) #[true, true, true, true, true, true, true, true, true, false, false, false, false] rfl rfl (take_ofW HT_.out HW_.out (by kernel_rfl)) (fun _ _ _ h => h) (Or.inl ⟨by rfl, ?_⟩) hHeld ?_ ?_
     rotate_left
     ·rintro w' ⟨s0, s1, s2, s3, s4, s5, s6, s7, s8, s9, s10⟩
      go_simp
      with_reducible rfl
     rotate_left
     ·simp only [Act.put, zR, zS, zT, i64_w, i32_w]
      rfl
     refine take_ (i := 9) (N := some 28) (v := ?_) (a' := ?_) #[true, true, true, true, true, true, true, true, true, true, false, false, false] rfl rfl (take_ofW HT_.out HW_.out (by kernel_rfl)) (fun _ _ _ h => h) (Or.inl ⟨by rfl, ?_⟩) hHeld ?_ ?_
     rotate_left
     ·rintro w' ⟨s0, s1, s2, s3, s4, s5, s6, s7, s8, s9, s10⟩
      go_simp
      with_reducible rfl
     rotate_left
     ·simp only [Act.put, zR, zS, zT, i64_w, i32_w]
      rfl
     refine pure_ (i := 10) (N := some 29) (v := ?_) (a' := ?_) #[true, true, true, true, true, true, true, true, true, true, true, false, false] rfl rfl (zV HT_.out (by kernel_rfl)) (fun _ _ _ h => h) (Or.inl ⟨by rfl, ?_⟩) ?_ ?_
     rotate_left
     ·intro w'
      go_simp
      with_reducible rfl
     rotate_left
     ·simp only [Act.put, zR, zS, zT, i64_w, i32_w]
      rfl
     refine pure_ (i := 11) (N := some 30) (v := ?_) (a' := ?_) #[true, true, true, true, true, true, true, true, true, true, true, true, false] rfl rfl (zV HT_.out (by kernel_rfl)) (fun _ _ _ h => h) (Or.inl ⟨by rfl, ?_⟩) ?_ ?_
     rotate_left
     ·intro w'
      go_simp
      with_reducible rfl
     rotate_left
     ·simp only [Act.put, zR, zS, zT, i64_w, i32_w]
      rfl
     refine pure_ (i := 12) (N := some 6) (v := ?_) (a' := ?_) #[true, true, true, true, true, true, true, true, true, true, true, true, true] rfl rfl (zV HT_.out (by kernel_rfl)) (fun _ _ _ h => h) (Or.inl ⟨by rfl, ?_⟩) ?_ ?_
     rotate_left
     ·intro w'
      go_simp
      with_reducible rfl
     rotate_left
     ·simp only [Act.put, zR, zS, zT, i64_w, i32_w]
      rfl
     refine done_ (done_of HT_.out (by kernel_rfl)) ?_
     try go_wp2
     go_ret
     exact ⟨by first | rfl | (simp [errW_none, errW_some] <;> rfl) | (simp [*, errW_none, errW_some] <;> rfl), by repeat (first | (with_reducible first | exact HB.out | apply zI | apply zH | apply zJ | refine zN ?_ ae.out | refine zN ?_ ah.out) | exact HB.out)⟩
    rw [if_neg c8] at H
    exact absurd H (by simp)
   replace c7 := Bool.eq_false_iff.mpr c7
   subst c7
   have H1 : (some true) = some r := by rw [if_neg (show ¬ (false = true) by decide)] at H; exact H
   clear H
   have H := H1
   clear H1
   obtain rfl := Option.some.inj H
   go_enter Tryd.func34, Tryd.ntmps34
   try go_wp2_with (first | ((with_reducible refine gate_dst (N := 4) rfl ?_); refine box_event ?hg (N := 4) ?hd (cs := #[.slice A1_0 l1_0.length c1_0, .slice A1_1 l1_1.length c1_1, .slice A1_2 l1_2.length c1_2, .int .i64 a1_3]) (t := 27) ?hr ?_; (case hd => rfl); (case hg => rfl); (case hr => first | (go_simp; done) | (go_simp; rfl)); intro a9 hg w20 hbox hb; have n0_ := uZ (zP (uB HB.out) hb); have n1_ := uZ (hbox); have n2_ := uZ ((by rw [hg]; exact (zO (uB HB.out)) : w.heap.size ≤ a9)); have n3_ := uZ ((by rw [hg]; exact (zO (uB HB.out)) : w.heap.size ≤ a9)); clear HB; have HB := n0_; have a8 := n1_; have GW167 := n2_; have ae := n3_; clear n0_ n1_ n2_ n3_; clear hb hbox hg))
   have n0_ := uZ (zF a8.out)
   have n1_ := uZ (zJ HB.out)
   clear a8
   clear HB
   have a8 := n0_
   have HB := n1_
   clear n0_ n1_
   have p168 : 0 ≤ (a2 : Int) := of_decide_eq_true (by first | (with_reducible assumption) | assumption)
   have q168 : a2 < (l1_2.length : Int) := of_decide_eq_true (by first | (with_reducible assumption) | assumption)
   obtain ⟨ad, e168, ag⟩ := Kd.at_int HR1_2.out a2 p168 q168
   have hw168_0 := ag
   cases e168
   replace ag := (HB.out.cell (zQ w _ ag)).trans ag
   replace p168 := eq_true p168
   replace q168 := eq_true q168
   refine start_ (n := 13) (S := fun w' => w'.cell? ⟨a9, 0, none⟩ = some (.slice A1_0 l1_0.length c1_0) ∧ w'.cell? ⟨a9, 1, none⟩ = some (.slice A1_1 l1_1.length c1_1) ∧ w'.cell? ⟨a9, 2, none⟩ = some (.slice (some ad) l1_2.length c1_2) ∧ w'.cell? ⟨a9, 3, none⟩ = some (.int .i64 a1_3) ∧ w'.cell? (ad.add (a2).toNat) = some (.int .i64 (rd l1_2 a2))) (ds := []) #[false, false, false, false, false, false, false, false, false, false, false, false, false] (by kernel_rfl) rfl rfl ⟨(zL a8.out 0).trans rfl, (zL a8.out 1).trans rfl, (zL a8.out 2).trans rfl, (zL a8.out 3).trans rfl, ((HB.out.cell (zQ w _ hw168_0)).trans hw168_0)⟩ (fun hHeld => ?_); refine with_tabW switchbacklaw17_long.tab1 switchbacklaw17_long.bits1 (fun HT_ HW_ => ?_)
   generalize w20.drew = w21 at a8 HB ag hHeld ⊢
   refine pure_ (i := 1) (N := some 11) (v := ?_) (a' := ?_) #[false, true, false, false, false, false, false, false, false, false, false, false, false] rfl rfl (zV HT_.out (by kernel_rfl)) (fun _ _ _ h => h) (Or.inl ⟨by rfl, ?_⟩) ?_ ?_
   rotate_left
   ·intro w'
    go_simp
    with_reducible rfl
   rotate_left
   ·simp only [Act.put, zR, zS, zT, i64_w, i32_w]
    rfl
   refine pure_ (i := 3) (N := some 13) (v := ?_) (a' := ?_) #[false, true, false, true, false, false, false, false, false, false, false, false, false] rfl rfl (zV HT_.out (by kernel_rfl)) (fun _ _ _ h => h) (Or.inl ⟨by rfl, ?_⟩) ?_ ?_
   rotate_left
   ·intro w'
    go_simp
    with_reducible rfl
   rotate_left
   ·simp only [Act.put, zR, zS, zT, i64_w, i32_w]
    rfl
   refine take_ (i := 0) (N := some 10) (v := ?_) (a' := ?_) #[true, true, false, true, false, false, false, false, false, false, false, false, false] rfl rfl (take_ofW HT_.out HW_.out (by kernel_rfl)) (fun _ _ _ h => h) (Or.inl ⟨by rfl, ?_⟩) hHeld ?_ ?_
   rotate_left
   ·rintro w' ⟨s0, s1, s2, s3, s4⟩
    go_simp
    with_reducible rfl
   rotate_left
   ·simp only [Act.put, zR, zS, zT, i64_w, i32_w]
    rfl
   refine take_ (i := 2) (N := some 12) (v := ?_) (a' := ?_) #[true, true, true, true, false, false, false, false, false, false, false, false, false] rfl rfl (take_ofW HT_.out HW_.out (by kernel_rfl)) (fun _ _ _ h => h) (Or.inl ⟨by rfl, ?_⟩) hHeld ?_ ?_
   rotate_left
   ·rintro w' ⟨s0, s1, s2, s3, s4⟩
    go_simp
    with_reducible rfl
   rotate_left
   ·simp only [Act.put, zR, zS, zT, i64_w, i32_w]
    rfl
   refine pure_ (i := 4) (N := some 14) (v := ?_) (a' := ?_) #[true, true, true, true, true, false, false, false, false, false, false, false, false] rfl rfl (zV HT_.out (by kernel_rfl)) (fun _ _ _ h => h) (Or.inl ⟨by rfl, ?_⟩) ?_ ?_
   rotate_left
   ·intro w'
    go_simp
    with_reducible rfl
   rotate_left
   ·simp only [Act.put, zR, zS, zT, i64_w, i32_w]
    rfl
   refine take_ (i := 5) (N := some 15) (v := ?_) (a' := ?_) #[true, true, true, true, true, true, false, false, false, false, false, false, false] rfl rfl (take_ofW HT_.out HW_.out (by kernel_rfl)) (fun _ _ _ h => h) (Or.inl ⟨by rfl, ?_⟩) hHeld ?_ ?_
   rotate_left
   ·rintro w' ⟨s0, s1, s2, s3, s4⟩
    go_simp
    with_reducible rfl
   rotate_left
   ·simp only [Act.put, zR, zS, zT, i64_w, i32_w]
    rfl
   refine join_ (σ := Nat) 2 #[true, true, true, true, true, true, true, true, true, true, true, false, false] (fun s_ => [(16, .tuple #[.agg #[.int .i64 af, .int .i64 ai, .int .i64 aj, .int .i64 ak], .bool false]), (7, .pointer (some ⟨s_, 0, none⟩)), (9, .tuple #[.agg #[.int .i64 af, .int .i64 ai, .int .i64 aj, .int .i64 ak], .bool false]), (17, .agg #[.int .i64 af, .int .i64 ai, .int .i64 aj, .int .i64 ak]), (18, .bool false)]) (fun s_ w' => (w'.cell? ⟨a9, 0, none⟩ = some (.slice A1_0 l1_0.length c1_0) ∧ w'.cell? ⟨a9, 1, none⟩ = some (.slice A1_1 l1_1.length c1_1) ∧ w'.cell? ⟨a9, 2, none⟩ = some (.slice (some ad) l1_2.length c1_2) ∧ w'.cell? ⟨a9, 3, none⟩ = some (.int .i64 a1_3) ∧ w'.cell? (ad.add (a2).toNat) = some (.int .i64 (rd l1_2 a2))) ∧ (w'.heap[a9]? = some (.cells #[.slice A1_0 l1_0.length c1_0, .slice A1_1 l1_1.length c1_1, .slice (some ad) l1_2.length c1_2, .int .i64 a1_3] 27 (0, 0))) ∧ (w'.heap[s_]? = some (.cells #[.int .i64 0, .int .i64 0, .int .i64 0, .int .i64 0] 44 (0, 0))) ∧ (w.heap.size ≤ s_) ∧ (w.heap.size ≤ s_) ∧ (a9 ≠ s_) ∧ (s_ ≠ a9) ∧ (Below w.heap.size w w')) ?_ ?_
   rotate_left
   ·intro hCont
    refine two_ (i := 6) (j := 10) (Ni := some 16) (Nj := some 7) #[true, true, true, true, true, true, true, false, false, false, false, false, false] #[true, true, true, true, true, true, false, false, false, false, true, false, false] rfl rfl rfl rfl (two_of HT_.out (by kernel_rfl)) (by decide) (by decide) (fun K hK => ?_) (fun K hK => ?_)
    ·skip
     refine goes_ Tryd.func33 (by kernel_rfl) rfl #[.agg #[.slice A1_0 l1_0.length c1_0, .slice A1_1 l1_1.length c1_1, .slice (some ad) l1_2.length c1_2, .int .i64 a1_3], .int .i64 (rd l1_2 a2)] (by rfl) rfl rfl (by (try simp only [List.map_toArray, List.map_cons, List.map_nil]); first | done | rfl | (simp only [List.length_drop, List.length_take]; rfl)) ?_
     with_reducible refine (switchbacklaw17_code.calls k _ _ l1_0 _ _ l1_1 _ _ l1_2 a1_3 (rd l1_2 a2) af ai aj ak false _ ?side1 ?side2 ?side3 ?side4 ?side5 ?side6 (uZ (hLaid_.out.below (by repeat (first | (with_reducible first | exact HB.out | apply zI | apply zH | apply zJ) | refine zN ?_ (Aside0.out (by assumption)) | exact HB.out)))) A6.out).mono ?_
     (case side1 => repeat (first | exact (zD HR1_0.out HB.out) | (with_reducible refine zA ?_ _) | (with_reducible refine zB ?_ _) | (with_reducible refine zC ?_)))
     (case side2 => exact HC1_0.out)
     (case side3 => repeat (first | exact (zD HR1_1.out HB.out) | (with_reducible refine zA ?_ _) | (with_reducible refine zB ?_ _) | (with_reducible refine zC ?_)))
     (case side4 => exact HC1_1.out)
     (case side5 => repeat (first | exact (zD HR1_2.out HB.out) | (with_reducible refine zA ?_ _) | (with_reducible refine zB ?_ _) | (with_reducible refine zC ?_)))
     (case side6 => exact HC1_2.out)
     rintro e w22 ⟨rfl, hb⟩
     refine ⟨_, rfl, ?_⟩
     have n0_ := uZ (zM (g := a9) (o := .cells #[.slice A1_0 l1_0.length c1_0, .slice A1_1 l1_1.length c1_1, .slice (some ad) l1_2.length c1_2, .int .i64 a1_3] 27 (0, 0)) (uK a8.out) hb)
     have n1_ := uZ (zP (uC HB.out ae.out) hb)
     clear a8
     clear HB
     have a8 := n0_
     have HB := n1_
     clear n0_ n1_
     (try clear hb)
     (try clear hb2)
     (try clear hk)
     (try clear hi)
     refine hK.out _ _ ⟨(zL a8.out 0).trans rfl, (zL a8.out 1).trans rfl, (zL a8.out 2).trans rfl, (zL a8.out 3).trans rfl, ((HB.out.cell (zQ w _ hw168_0)).trans hw168_0)⟩ (fun hHeld => ?_)
     clear hK K
     refine norm_ (a' := ?_) ?_ ?_
     rotate_left
     ·show Act.put _ (some 16) _ = _
      simp only [Act.put, zR, zS, zT, i64_w, i32_w]
      rfl
     refine pure_ (i := 7) (N := some 9) (v := ?_) (a' := ?_) #[true, true, true, true, true, true, true, true, false, false, false, false, false] rfl rfl (zV HT_.out (by kernel_rfl)) (fun _ _ _ h => h) (Or.inl ⟨by rfl, ?_⟩) ?_ ?_
     rotate_left
     ·intro w'
      go_simp
      with_reducible rfl
     rotate_left
     ·simp only [Act.put, zR, zS, zT, i64_w, i32_w]
      rfl
     refine pure_ (i := 8) (N := some 17) (v := ?_) (a' := ?_) #[true, true, true, true, true, true, true, true, true, false, false, false, false] rfl rfl (zV HT_.out (by kernel_rfl)) (fun _ _ _ h => h) (Or.inl ⟨by rfl, ?_⟩) ?_ ?_
     rotate_left
     ·intro w'
      go_simp
      with_reducible rfl
     rotate_left
     ·simp only [Act.put, zR, zS, zT, i64_w, i32_w]
      rfl
     refine pure_ (i := 9) (N := some 18) (v := ?_) (a' := ?_) #[true, true, true, true, true, true, true, true, true, true, false, false, false] rfl rfl (zV HT_.out (by kernel_rfl)) (fun _ _ _ h => h) (Or.inl ⟨by rfl, ?_⟩) ?_ ?_
     rotate_left
     ·intro w'
      go_simp
      with_reducible rfl
     rotate_left
     ·simp only [Act.put, zR, zS, zT, i64_w, i32_w]
      rfl
     refine one_ (i := 10) (N := some 7) #[true, true, true, true, true, true, true, true, true, true, true, false, false] rfl rfl (one_of HT_.out (by kernel_rfl)) (by decide) (fun K hK => ?_)
     refine box_step ?hg (N := 7) ?hd (cs := #[.int .i64 0, .int .i64 0, .int .i64 0, .int .i64 0]) (t := 44) ?hr ?_; (case hd => rfl); (case hg => rfl); (case hr => first | (go_simp; done) | (go_simp; rfl))
     intro a7 hg w23 hbox hb
     have n0_ := uZ (zM (g := a9) (o := .cells #[.slice A1_0 l1_0.length c1_0, .slice A1_1 l1_1.length c1_1, .slice (some ad) l1_2.length c1_2, .int .i64 a1_3] 27 (0, 0)) (uK a8.out) hb)
     have n1_ := uZ (zP (uC HB.out ae.out) hb)
     have n2_ := uZ (hbox)
     have n3_ := uZ ((by rw [hg]; exact (zO (uC HB.out ae.out)) : w.heap.size ≤ a7))
     have n4_ := uZ ((by rw [hg]; exact (zO (uC HB.out ae.out)) : w.heap.size ≤ a7))
     have n5_ := uZ ((by rw [hg]; exact Nat.ne_of_lt (blk_lt (g := a9) (o := .cells #[.slice A1_0 l1_0.length c1_0, .slice A1_1 l1_1.length c1_1, .slice (some ad) l1_2.length c1_2, .int .i64 a1_3] 27 (0, 0)) (uK a8.out)) : a9 ≠ a7))
     have n6_ := uZ ((by rw [hg]; exact Nat.ne_of_gt (blk_lt (g := a9) (o := .cells #[.slice A1_0 l1_0.length c1_0, .slice A1_1 l1_1.length c1_1, .slice (some ad) l1_2.length c1_2, .int .i64 a1_3] 27 (0, 0)) (uK a8.out)) : a7 ≠ a9))
     clear a8
     clear HB
     have a8 := n0_
     have HB := n1_
     have aa := n2_
     have ab := n3_
     have ah := n4_
     have a6 := n5_
     have ac := n6_
     clear n0_ n1_ n2_ n3_ n4_ n5_ n6_
     clear hb hbox hg
     refine hK.out _ _ ⟨(zL a8.out 0).trans rfl, (zL a8.out 1).trans rfl, (zL a8.out 2).trans rfl, (zL a8.out 3).trans rfl, ((HB.out.cell (zQ w _ hw168_0)).trans hw168_0)⟩ (fun hHeld => ?_)
     clear hK K
     refine norm_ (a' := ?_) ?_ ?_
     rotate_left
     ·show Act.put _ (some 7) _ = _
      simp only [Act.put, zR, zS, zT, i64_w, i32_w]
      rfl
     exact norm_ (by simp only [putAll, Act.put, zR, zS, zT]) (hCont (a7) _ ⟨hHeld, (uK a8.out), (uK aa.out), ab.out, ah.out, a6.out, ac.out, (uD HB.out ae.out ah.out)⟩)
    skip
    refine box_step ?hg (N := 7) ?hd (cs := #[.int .i64 0, .int .i64 0, .int .i64 0, .int .i64 0]) (t := 44) ?hr ?_; (case hd => rfl); (case hg => rfl); (case hr => first | (go_simp; done) | (go_simp; rfl))
    intro a7 hg w22 hbox hb
    have n0_ := uZ (zM (g := a9) (o := .cells #[.slice A1_0 l1_0.length c1_0, .slice A1_1 l1_1.length c1_1, .slice (some ad) l1_2.length c1_2, .int .i64 a1_3] 27 (0, 0)) (uK a8.out) hb)
    have n1_ := uZ (zP (uC HB.out ae.out) hb)
    have n2_ := uZ (hbox)
    have n3_ := uZ ((by rw [hg]; exact (zO (uC HB.out ae.out)) : w.heap.size ≤ a7))
    have n4_ := uZ ((by rw [hg]; exact (zO (uC HB.out ae.out)) : w.heap.size ≤ a7))
    have n5_ := uZ ((by rw [hg]; exact Nat.ne_of_lt (blk_lt (g := a9) (o := .cells #[.slice A1_0 l1_0.length c1_0, .slice A1_1 l1_1.length c1_1, .slice (some ad) l1_2.length c1_2, .int .i64 a1_3] 27 (0, 0)) (uK a8.out)) : a9 ≠ a7))
    have n6_ := uZ ((by rw [hg]; exact Nat.ne_of_gt (blk_lt (g := a9) (o := .cells #[.slice A1_0 l1_0.length c1_0, .slice A1_1 l1_1.length c1_1, .slice (some ad) l1_2.length c1_2, .int .i64 a1_3] 27 (0, 0)) (uK a8.out)) : a7 ≠ a9))
    clear a8
    clear HB
    have a8 := n0_
    have HB := n1_
    have aa := n2_
    have ab := n3_
    have ah := n4_
    have a6 := n5_
    have ac := n6_
    clear n0_ n1_ n2_ n3_ n4_ n5_ n6_
    clear hb hbox hg
    refine hK.out _ _ ⟨(zL a8.out 0).trans rfl, (zL a8.out 1).trans rfl, (zL a8.out 2).trans rfl, (zL a8.out 3).trans rfl, ((HB.out.cell (zQ w _ hw168_0)).trans hw168_0)⟩ (fun hHeld => ?_)
    clear hK K
    refine norm_ (a' := ?_) ?_ ?_
    rotate_left
    ·show Act.put _ (some 7) _ = _
     simp only [Act.put, zR, zS, zT, i64_w, i32_w]
     rfl
    refine one_ (i := 6) (N := some 16) #[true, true, true, true, true, true, true, false, false, false, true, false, false] rfl rfl (one_of HT_.out (by kernel_rfl)) (by decide) (fun K hK => ?_)
    refine goes_ Tryd.func33 (by kernel_rfl) rfl #[.agg #[.slice A1_0 l1_0.length c1_0, .slice A1_1 l1_1.length c1_1, .slice (some ad) l1_2.length c1_2, .int .i64 a1_3], .int .i64 (rd l1_2 a2)] (by rfl) rfl rfl (by (try simp only [List.map_toArray, List.map_cons, List.map_nil]); first | done | rfl | (simp only [List.length_drop, List.length_take]; rfl)) ?_
    with_reducible refine (switchbacklaw17_code.calls k _ _ l1_0 _ _ l1_1 _ _ l1_2 a1_3 (rd l1_2 a2) af ai aj ak false _ ?side1 ?side2 ?side3 ?side4 ?side5 ?side6 (uZ (hLaid_.out.below (by repeat (first | (with_reducible first | exact HB.out | apply zI | apply zH | apply zJ) | refine zN ?_ (Aside0.out (by assumption)) | exact HB.out)))) A6.out).mono ?_
    (case side1 => repeat (first | exact (zD HR1_0.out HB.out) | (with_reducible refine zA ?_ _) | (with_reducible refine zB ?_ _) | (with_reducible refine zC ?_)))
    (case side2 => exact HC1_0.out)
    (case side3 => repeat (first | exact (zD HR1_1.out HB.out) | (with_reducible refine zA ?_ _) | (with_reducible refine zB ?_ _) | (with_reducible refine zC ?_)))
    (case side4 => exact HC1_1.out)
    (case side5 => repeat (first | exact (zD HR1_2.out HB.out) | (with_reducible refine zA ?_ _) | (with_reducible refine zB ?_ _) | (with_reducible refine zC ?_)))
    (case side6 => exact HC1_2.out)
    rintro e w23 ⟨rfl, hb⟩
    refine ⟨_, rfl, ?_⟩
    have n0_ := uZ (zM (g := a9) (o := .cells #[.slice A1_0 l1_0.length c1_0, .slice A1_1 l1_1.length c1_1, .slice (some ad) l1_2.length c1_2, .int .i64 a1_3] 27 (0, 0)) (uK a8.out) hb)
    have n1_ := uZ (zM (g := a7) (o := .cells #[.int .i64 0, .int .i64 0, .int .i64 0, .int .i64 0] 44 (0, 0)) (uK aa.out) hb)
    have n2_ := uZ (zP (uD HB.out ae.out ah.out) hb)
    clear a8
    clear aa
    clear HB
    have a8 := n0_
    have aa := n1_
    have HB := n2_
    clear n0_ n1_ n2_
    (try clear hb)
    (try clear hb2)
    (try clear hk)
    (try clear hi)
    refine hK.out _ _ ⟨(zL a8.out 0).trans rfl, (zL a8.out 1).trans rfl, (zL a8.out 2).trans rfl, (zL a8.out 3).trans rfl, ((HB.out.cell (zQ w _ hw168_0)).trans hw168_0)⟩ (fun hHeld => ?_)
    clear hK K
    refine norm_ (a' := ?_) ?_ ?_
    rotate_left
    ·show Act.put _ (some 16) _ = _
     simp only [Act.put, zR, zS, zT, i64_w, i32_w]
     rfl
    refine pure_ (i := 7) (N := some 9) (v := ?_) (a' := ?_) #[true, true, true, true, true, true, true, true, false, false, true, false, false] rfl rfl (zV HT_.out (by kernel_rfl)) (fun _ _ _ h => h) (Or.inl ⟨by rfl, ?_⟩) ?_ ?_
    rotate_left
    ·intro w'
     go_simp
     with_reducible rfl
    rotate_left
    ·simp only [Act.put, zR, zS, zT, i64_w, i32_w]
     rfl
    refine pure_ (i := 8) (N := some 17) (v := ?_) (a' := ?_) #[true, true, true, true, true, true, true, true, true, false, true, false, false] rfl rfl (zV HT_.out (by kernel_rfl)) (fun _ _ _ h => h) (Or.inl ⟨by rfl, ?_⟩) ?_ ?_
    rotate_left
    ·intro w'
     go_simp
     with_reducible rfl
    rotate_left
    ·simp only [Act.put, zR, zS, zT, i64_w, i32_w]
     rfl
    refine pure_ (i := 9) (N := some 18) (v := ?_) (a' := ?_) #[true, true, true, true, true, true, true, true, true, true, true, false, false] rfl rfl (zV HT_.out (by kernel_rfl)) (fun _ _ _ h => h) (Or.inl ⟨by rfl, ?_⟩) ?_ ?_
    rotate_left
    ·intro w'
     go_simp
     with_reducible rfl
    rotate_left
    ·simp only [Act.put, zR, zS, zT, i64_w, i32_w]
     rfl
    exact norm_ (by simp only [putAll, Act.put, zR, zS, zT]) (hCont (a7) _ ⟨hHeld, (uK a8.out), (uK aa.out), ab.out, ah.out, a6.out, ac.out, (uD HB.out ae.out ah.out)⟩)
   rintro a7 w24 ⟨hS_, h0_, h1_, h2_, h3_, h4_, h5_, h6_⟩
   have n0_ : Aside0 (w24.heap[a9]? = some (.cells #[.slice A1_0 l1_0.length c1_0, .slice A1_1 l1_1.length c1_1, .slice (some ad) l1_2.length c1_2, .int .i64 a1_3] 27 (0, 0))) := ⟨h0_⟩
   have n1_ : Aside0 (w24.heap[a7]? = some (.cells #[.int .i64 0, .int .i64 0, .int .i64 0, .int .i64 0] 44 (0, 0))) := ⟨h1_⟩
   have n2_ : Aside0 (w.heap.size ≤ a7) := ⟨h2_⟩
   have n3_ : Aside0 (w.heap.size ≤ a7) := ⟨h3_⟩
   have n4_ : Aside0 (a9 ≠ a7) := ⟨h4_⟩
   have n5_ : Aside0 (a7 ≠ a9) := ⟨h5_⟩
   have n6_ : Aside0 (Below w.heap.size w w24) := ⟨h6_⟩
   clear a8
   clear HB
   clear h0_ h1_ h2_ h3_ h4_ h5_ h6_
   have a8 := n0_
   have aa := n1_
   have ab := n2_
   have ah := n3_
   have a6 := n4_
   have ac := n5_
   have HB := n6_
   clear n0_ n1_ n2_ n3_ n4_ n5_ n6_
   have hHeld : w24.cell? ⟨a9, 0, none⟩ = some (.slice A1_0 l1_0.length c1_0) ∧ w24.cell? ⟨a9, 1, none⟩ = some (.slice A1_1 l1_1.length c1_1) ∧ w24.cell? ⟨a9, 2, none⟩ = some (.slice (some ad) l1_2.length c1_2) ∧ w24.cell? ⟨a9, 3, none⟩ = some (.int .i64 a1_3) ∧ w24.cell? (ad.add (a2).toNat) = some (.int .i64 (rd l1_2 a2)) := hS_
   refine norm_ (a' := ?_) ?_ ?_
   rotate_left
   ·simp only [putAll, Act.put, zR, zS, zT]
    rfl
   refine one_ (i := 11) (N := none) #[true, true, true, true, true, true, true, true, true, true, true, true, false] rfl rfl (one_of HT_.out (by kernel_rfl)) (by decide) (fun K hK => ?_)
   have hs25 : w24.cell? ⟨a7, 0, none⟩ = some (.int .i64 0) := (zL aa.out 0).trans rfl
   have hfs25 := zK aa.out 0
   have hns25_0 := a6.out
   have hms25_0 := ac.out
   have hs26 : w24.cell? ⟨a7, 1, none⟩ = some (.int .i64 0) := (zL aa.out 1).trans rfl
   have hfs26 := zK aa.out 1
   have hns26_0 := a6.out
   have hms26_0 := ac.out
   have hs27 : w24.cell? ⟨a7, 2, none⟩ = some (.int .i64 0) := (zL aa.out 2).trans rfl
   have hfs27 := zK aa.out 2
   have hns27_0 := a6.out
   have hms27_0 := ac.out
   have hs28 : w24.cell? ⟨a7, 3, none⟩ = some (.int .i64 0) := (zL aa.out 3).trans rfl
   have hfs28 := zK aa.out 3
   have hns28_0 := a6.out
   have hms28_0 := ac.out
   refine skip_ (w1 := ?_) (by rfl) rfl ?_ ?_
   rotate_left
   ·go_simp
    rfl
   refine hK.out _ _ ⟨((zU (p := ⟨a7, _, none⟩) a6.out _).trans (((zU (p := ⟨a7, _, none⟩) a6.out _).trans (((zU (p := ⟨a7, _, none⟩) a6.out _).trans (((zU (p := ⟨a7, _, none⟩) a6.out _).trans (hHeld.1)))))))), ((zU (p := ⟨a7, _, none⟩) a6.out _).trans (((zU (p := ⟨a7, _, none⟩) a6.out _).trans (((zU (p := ⟨a7, _, none⟩) a6.out _).trans (((zU (p := ⟨a7, _, none⟩) a6.out _).trans (hHeld.2.1)))))))), ((zU (p := ⟨a7, _, none⟩) a6.out _).trans (((zU (p := ⟨a7, _, none⟩) a6.out _).trans (((zU (p := ⟨a7, _, none⟩) a6.out _).trans (((zU (p := ⟨a7, _, none⟩) a6.out _).trans (hHeld.2.2.1)))))))), ((zU (p := ⟨a7, _, none⟩) a6.out _).trans (((zU (p := ⟨a7, _, none⟩) a6.out _).trans (((zU (p := ⟨a7, _, none⟩) a6.out _).trans (((zU (p := ⟨a7, _, none⟩) a6.out _).trans (hHeld.2.2.2.1)))))))), ((zU (p := ⟨a7, _, none⟩) (by first | exact Nat.ne_of_lt (Nat.lt_of_lt_of_le (by have := zQ _ _ hw168_0; first | rwa [add_block] at this | exact this) ab.out) | (rw [add_block]; exact Nat.ne_of_lt (Nat.lt_of_lt_of_le (by have := zQ _ _ hw168_0; first | rwa [add_block] at this | exact this) ab.out)) | (show (Addr.add _ _).block ≠ _; rw [add_block]; exact Nat.ne_of_lt (Nat.lt_of_lt_of_le (by have := zQ _ _ hw168_0; first | rwa [add_block] at this | exact this) ab.out)) | (dsimp only; exact Nat.ne_of_lt (Nat.lt_of_lt_of_le (by have := zQ _ _ hw168_0; first | rwa [add_block] at this | exact this) ab.out))) _).trans (((zU (p := ⟨a7, _, none⟩) (by first | exact Nat.ne_of_lt (Nat.lt_of_lt_of_le (by have := zQ _ _ hw168_0; first | rwa [add_block] at this | exact this) ab.out) | (rw [add_block]; exact Nat.ne_of_lt (Nat.lt_of_lt_of_le (by have := zQ _ _ hw168_0; first | rwa [add_block] at this | exact this) ab.out)) | (show (Addr.add _ _).block ≠ _; rw [add_block]; exact Nat.ne_of_lt (Nat.lt_of_lt_of_le (by have := zQ _ _ hw168_0; first | rwa [add_block] at this | exact this) ab.out)) | (dsimp only; exact Nat.ne_of_lt (Nat.lt_of_lt_of_le (by have := zQ _ _ hw168_0; first | rwa [add_block] at this | exact this) ab.out))) _).trans (((zU (p := ⟨a7, _, none⟩) (by first | exact Nat.ne_of_lt (Nat.lt_of_lt_of_le (by have := zQ _ _ hw168_0; first | rwa [add_block] at this | exact this) ab.out) | (rw [add_block]; exact Nat.ne_of_lt (Nat.lt_of_lt_of_le (by have := zQ _ _ hw168_0; first | rwa [add_block] at this | exact this) ab.out)) | (show (Addr.add _ _).block ≠ _; rw [add_block]; exact Nat.ne_of_lt (Nat.lt_of_lt_of_le (by have := zQ _ _ hw168_0; first | rwa [add_block] at this | exact this) ab.out)) | (dsimp only; exact Nat.ne_of_lt (Nat.lt_of_lt_of_le (by have := zQ _ _ hw168_0; first | rwa [add_block] at this | exact this) ab.out))) _).trans (((zU (p := ⟨a7, _, none⟩) (by first | exact Nat.ne_of_lt (Nat.lt_of_lt_of_le (by have := zQ _ _ hw168_0; first | rwa [add_block] at this | exact this) ab.out) | (rw [add_block]; exact Nat.ne_of_lt (Nat.lt_of_lt_of_le (by have := zQ _ _ hw168_0; first | rwa [add_block] at this | exact this) ab.out)) | (show (Addr.add _ _).block ≠ _; rw [add_block]; exact Nat.ne_of_lt (Nat.lt_of_lt_of_le (by have := zQ _ _ hw168_0; first | rwa [add_block] at this | exact this) ab.out)) | (dsimp only; exact Nat.ne_of_lt (Nat.lt_of_lt_of_le (by have := zQ _ _ hw168_0; first | rwa [add_block] at this | exact this) ab.out))) _).trans (hHeld.2.2.2.2))))))))⟩ (fun hHeld => ?_)
   clear hK K
   refine pure_ (i := 12) (N := some 8) (v := ?_) (a' := ?_) #[true, true, true, true, true, true, true, true, true, true, true, true, true] rfl rfl (zV HT_.out (by kernel_rfl)) (fun _ _ _ h => h) (Or.inl ⟨by rfl, ?_⟩) ?_ ?_
   rotate_left
   ·intro w'
    go_simp
    with_reducible rfl
   rotate_left
   ·simp only [Act.put, zR, zS, zT, i64_w, i32_w]
    rfl
   refine done_ (done_of HT_.out (by kernel_rfl)) ?_
   try go_wp2
   have n0_ : Aside0 (((((w24.setCell ⟨a7, 0, none⟩ (.int .i64 af)).setCell ⟨a7, 1, none⟩ (.int .i64 ai)).setCell ⟨a7, 2, none⟩ (.int .i64 aj)).setCell ⟨a7, 3, none⟩ (.int .i64 ak)).heap[a9]? = some (.cells #[.slice A1_0 l1_0.length c1_0, .slice A1_1 l1_1.length c1_1, .slice (some ad) l1_2.length c1_2, .int .i64 a1_3] 27 (0, 0))) := ⟨by (with_reducible repeat (first | apply zE | apply zF | apply zG)); refine blk_far ?_ a6.out _; (with_reducible repeat (first | apply zE | apply zF | apply zG)); refine blk_far ?_ a6.out _; (with_reducible repeat (first | apply zE | apply zF | apply zG)); refine blk_far ?_ a6.out _; (with_reducible repeat (first | apply zE | apply zF | apply zG)); refine blk_far ?_ a6.out _; (with_reducible repeat (first | apply zE | apply zF | apply zG)); exact a8.out⟩
   have n1_ : Aside0 (((((w24.setCell ⟨a7, 0, none⟩ (.int .i64 af)).setCell ⟨a7, 1, none⟩ (.int .i64 ai)).setCell ⟨a7, 2, none⟩ (.int .i64 aj)).setCell ⟨a7, 3, none⟩ (.int .i64 ak)).heap[a7]? = some (.cells #[.int .i64 af, .int .i64 ai, .int .i64 aj, .int .i64 ak] 44 (0, 0))) := ⟨by (with_reducible repeat (first | apply zE | apply zF | apply zG)); refine blk_put (cs := #[.int .i64 af, .int .i64 ai, .int .i64 aj, .int .i64 0]) ?_ 3 _ rfl; (with_reducible repeat (first | apply zE | apply zF | apply zG)); refine blk_put (cs := #[.int .i64 af, .int .i64 ai, .int .i64 0, .int .i64 0]) ?_ 2 _ rfl; (with_reducible repeat (first | apply zE | apply zF | apply zG)); refine blk_put (cs := #[.int .i64 af, .int .i64 0, .int .i64 0, .int .i64 0]) ?_ 1 _ rfl; (with_reducible repeat (first | apply zE | apply zF | apply zG)); refine blk_put (cs := #[.int .i64 0, .int .i64 0, .int .i64 0, .int .i64 0]) ?_ 0 _ rfl; (with_reducible repeat (first | apply zE | apply zF | apply zG)); exact aa.out⟩
   have n2_ : Aside0 (Below w.heap.size w ((((w24.setCell ⟨a7, 0, none⟩ (.int .i64 af)).setCell ⟨a7, 1, none⟩ (.int .i64 ai)).setCell ⟨a7, 2, none⟩ (.int .i64 aj)).setCell ⟨a7, 3, none⟩ (.int .i64 ak))) := ⟨uD HB.out ae.out ah.out⟩
   (try clear a8)
   (try clear aa)
   (try clear HB)
   generalize ((((w24.setCell ⟨a7, 0, none⟩ (.int .i64 af)).setCell ⟨a7, 1, none⟩ (.int .i64 ai)).setCell ⟨a7, 2, none⟩ (.int .i64 aj)).setCell ⟨a7, 3, none⟩ (.int .i64 ak)) = w29 at n0_ n1_ n2_ ⊢
   have a8 := n0_
   have aa := n1_
   have HB := n2_
   clear n0_ n1_ n2_
   have n0_ := uZ (zF a8.out)
   have n1_ := uZ (zF aa.out)
   have n2_ := uZ (zJ HB.out)
   clear a8
   clear aa
   clear HB
   have a8 := n0_
   have aa := n1_
   have HB := n2_
   clear n0_ n1_ n2_
   refine start_ (n := 13) (S := fun w' => True) (ds := []) #[false, false, false, false, false, false, false, false, false, false, false, false, false] (by kernel_rfl) rfl rfl trivial (fun hHeld => ?_); refine with_tabW switchbacklaw17_long.tab2 switchbacklaw17_long.bits2 (fun HT_ HW_ => ?_)
   generalize w29.drew = w30 at a8 aa HB hHeld ⊢
   refine pure_ (i := 0) (N := some 19) (v := ?_) (a' := ?_) #[true, false, false, false, false, false, false, false, false, false, false, false, false] rfl rfl (zV HT_.out (by kernel_rfl)) (fun _ _ _ h => h) (Or.inl ⟨by rfl, ?_⟩) ?_ ?_
   rotate_left
   ·intro w'
    go_simp
    with_reducible rfl
   rotate_left
   ·simp only [Act.put, zR, zS, zT, i64_w, i32_w]
    rfl
   refine pure_ (i := 1) (N := some 20) (v := ?_) (a' := ?_) #[true, true, false, false, false, false, false, false, false, false, false, false, false] rfl rfl (zV HT_.out (by kernel_rfl)) (fun _ _ _ h => h) (Or.inl ⟨by rfl, ?_⟩) ?_ ?_
   rotate_left
   ·intro w'
    go_simp
    with_reducible rfl
   rotate_left
   ·simp only [Act.put, zR, zS, zT, i64_w, i32_w]
    rfl
   refine pure_ (i := 2) (N := some 21) (v := ?_) (a' := ?_) #[true, true, true, false, false, false, false, false, false, false, false, false, false] rfl rfl (zV HT_.out (by kernel_rfl)) (fun _ _ _ h => h) (Or.inl ⟨by rfl, ?_⟩) ?_ ?_
   rotate_left
   ·intro w'
    go_simp
    with_reducible rfl
   rotate_left
   ·simp only [Act.put, zR, zS, zT, i64_w, i32_w]
    rfl
   refine pure_ (i := 3) (N := some 22) (v := undef) (a' := ?_) #[true, true, true, true, false, false, false, false, false, false, false, false, false] rfl rfl (zV HT_.out (by kernel_rfl)) (fun _ _ _ h => h) (Or.inr ⟨by rfl, rfl⟩) ?_ ?_
   rotate_left
   ·simp only [Act.put, zR, zS, zT, i64_w, i32_w]
    rfl
   refine pure_ (i := 4) (N := some 23) (v := undef) (a' := ?_) #[true, true, true, true, true, false, false, false, false, false, false, false, false] rfl rfl (zV HT_.out (by kernel_rfl)) (fun _ _ _ h => h) (Or.inr ⟨by rfl, rfl⟩) ?_ ?_
   rotate_left
   ·simp only [Act.put, zR, zS, zT, i64_w, i32_w]
    rfl
   refine pure_ (i := 5) (N := some 24) (v := undef) (a' := ?_) #[true, true, true, true, true, true, false, false, false, false, false, false, false] rfl rfl (zV HT_.out (by kernel_rfl)) (fun _ _ _ h => h) (Or.inr ⟨by rfl, rfl⟩) ?_ ?_
   rotate_left
   ·simp only [Act.put, zR, zS, zT, i64_w, i32_w]
    rfl
   refine pure_ (i := 6) (N := some 25) (v := undef) (a' := ?_) #[true, true, true, true, true, true, true, false, false, false, false, false, false] rfl rfl (zV HT_.out (by kernel_rfl)) (fun _ _ _ h => h) (Or.inr ⟨by rfl, rfl⟩) ?_ ?_
   rotate_left
   ·simp only [Act.put, zR, zS, zT, i64_w, i32_w]
    rfl
   refine pure_ (i := 7) (N := some 26) (v := undef) (a' := ?_) #[true, true, true, true, true, true, true, true, false, false, false, false, false] rfl rfl (zV HT_.out (by kernel_rfl)) (fun _ _ _ h => h) (Or.inr ⟨by rfl, rfl⟩) ?_ ?_
   rotate_left
   ·simp only [Act.put, zR, zS, zT, i64_w, i32_w]
    rfl
   refine pure_ (i := 8) (N := some 27) (v := undef) (a' := ?_) #[true, true, true, true, true, true, true, true, true, false, false, false, false] rfl rfl (zV HT_.out (by kernel_rfl)) (fun _ _ _ h => h) (Or.inr ⟨by rfl, rfl⟩) ?_ ?_
   rotate_left
   ·simp only [Act.put, zR, zS, zT, i64_w, i32_w]
    rfl
   refine pure_ (i := 9) (N := some 28) (v := undef) (a' := ?_) #[true, true, true, true, true, true, true, true, true, true, false, false, false] rfl rfl (zV HT_.out (by kernel_rfl)) (fun _ _ _ h => h) (Or.inr ⟨by rfl, rfl⟩) ?_ ?_
   rotate_left
   ·simp only [Act.put, zR, zS, zT, i64_w, i32_w]
    rfl
   refine pure_ (i := 10) (N := some 29) (v := undef) (a' := ?_) #[true, true, true, true, true, true, true, true, true, true, true, false, false] rfl rfl (zV HT_.out (by kernel_rfl)) (fun _ _ _ h => h) (Or.inr ⟨by rfl, rfl⟩) ?_ ?_
   rotate_left
   ·simp only [Act.put, zR, zS, zT, i64_w, i32_w]
    rfl
   refine pure_ (i := 11) (N := some 30) (v := ?_) (a' := ?_) #[true, true, true, true, true, true, true, true, true, true, true, true, false] rfl rfl (zV HT_.out (by kernel_rfl)) (fun _ _ _ h => h) (Or.inl ⟨by rfl, ?_⟩) ?_ ?_
   rotate_left
   ·intro w'
    go_simp
    with_reducible rfl
   rotate_left
   ·simp only [Act.put, zR, zS, zT, i64_w, i32_w]
    rfl
   refine pure_ (i := 12) (N := some 6) (v := ?_) (a' := ?_) #[true, true, true, true, true, true, true, true, true, true, true, true, true] rfl rfl (zV HT_.out (by kernel_rfl)) (fun _ _ _ h => h) (Or.inl ⟨by rfl, ?_⟩) ?_ ?_
   rotate_left
   ·intro w'
    go_simp
    with_reducible rfl
   rotate_left
   ·simp only [Act.put, zR, zS, zT, i64_w, i32_w]
    rfl
   refine done_ (done_of HT_.out (by kernel_rfl)) ?_
   try go_wp2
   go_ret
   exact ⟨by first | rfl | (simp [errW_none, errW_some] <;> rfl) | (simp [*, errW_none, errW_some] <;> rfl), by repeat (first | (with_reducible first | exact HB.out | apply zI | apply zH | apply zJ | refine zN ?_ ae.out | refine zN ?_ ah.out) | exact HB.out)⟩
  rw [if_neg c5] at H
  exact absurd H (by simp)
 rw [if_neg c4] at H
 exact absurd H (by simp)

end Go.Proofs.YtamimnaafiphcaaDoor.PR1S
