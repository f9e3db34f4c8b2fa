/- Texts joined: PR1Dx0 PR1Dx23 PR1Dx26 PR1Dx24 PR1Dx25 PR1Dx2 PR1Dx28 PR1Dx27 PR1Dx34. -/
import Derived.Test.YtamimnaafiphcaaDoorProg
import Derived.Below
import Derived.Deep.Draws
import Derived.Deep.AppendLies
import Derived.Maps.AppendAt
import Derived.OwnWalk
import Derived.Laws.BytesArg
import Derived.Laws.MakeOwn
import Derived.Laws.OwnMore
import Derived.Deep.OwnRows
import Derived.Tactics
import Derived.Lib.ConvBytes
import Derived.Laws.Slices
import Derived.WalkKit
import Derived.KernelRfl
import Derived.RowKit3
import Derived.Deep.LoopGhost
import Derived.Deep.QuietTactic
import Derived.BigQuiet
import Derived.WideLaws
import Derived.Deep.DeepCutAuto
import Derived.Deep.CutBlock
import Derived.Deep.RegionHeld3
import Derived.Laws.Rows
import Derived.Lib.AppendStr
import Derived.ArgAppend
import Derived.Laws.IdiomCopy
import Derived.OrdersHeld
import Derived.Laws.BitsLemmas
import Derived.RowKit
import Derived.Test.YtamimnaafiphcaaDoorWWords
import Derived.Test.YtamimnaafiphcaaDoorWLast
import Derived.Test.YtamimnaafiphcaaDoorWTab
import Derived.Test.YtamimnaafiphcaaDoorWZ1
import Derived.Test.YtamimnaafiphcaaDoorWFoot
import Derived.Test.YtamimnaafiphcaaDoorWKept
import Derived.Test.YtamimnaafiphcaaDoorWShare
import Derived.Test.YtamimnaafiphcaaDoorWN
import Derived.Test.YtamimnaafiphcaaDoorWZ2
import Derived.Test.YtamimnaafiphcaaDoorWInv
import Derived.Test.YtamimnaafiphcaaDoorWInvWords
import Derived.Test.YtamimnaafiphcaaDoorWGuard
import Derived.Test.YtamimnaafiphcaaDoorWNEv
import Derived.Test.YtamimnaafiphcaaDoorWMore
-- Written by gp.py for this claim.
namespace Go.Proofs.YtamimnaafiphcaaDoor.PR1D
open Go.RowKit Go.Proofs.YtamimnaafiphcaaDoorW.PrintWords Go.Proofs.YtamimnaafiphcaaDoorW.PrintLast Go.Proofs.YtamimnaafiphcaaDoorW.PrintMore
attribute [local go_sem] max2_int min2_int max_two min_two max_three min_three max_four min_four   -- for this text's walks alone
set_option linter.unusedVariables false
set_option linter.unusedSimpArgs false

def errW : Option Int → Value
  | none => .nilIface
  | some c => .iface 0 (.int .i64 c)
theorem errW_none : errW none = .nilIface := rfl
theorem errW_some (c : Int) : errW (some c) = .iface 0 (.int .i64 c) := rfl

theorem info3 : (Tryd.prog.info? 3).map (fun i => (i.zero, i.size, i.bytes)) = some (some (.int .i64 0), 1, 8) := by kernel_rfl
theorem info4 : (Tryd.prog.info? 4).map (fun i => (i.zero, i.size, i.bytes)) = some (some (.bool false), 1, 1) := by kernel_rfl
theorem info38 : (Tryd.prog.info? 38).map (fun i => (i.zero, i.size, i.bytes)) = some (some (.int .u32 0), 1, 4) := by kernel_rfl
theorem info40 : (Tryd.prog.info? 40).map (fun i => (i.zero, i.size, i.bytes)) = some (some (.agg #[(.int .i64 0), (.int .i64 0), (.int .i64 0), (.int .i64 0), (.int .u32 0), (.int .i64 0), (.slice none 0 0)]), 7, 72) := by kernel_rfl
-- the values' own types

/-! #### struct type 40 -/
structure S40 where
  f0 : Int
  f1 : Int
  f2 : Int
  f3 : Int
  f4 : Int
  f5 : Int
  f6 : (List Int)
def z40 : S40 := ⟨(0 : Int), (0 : Int), (0 : Int), (0 : Int), (0 : Int), (0 : Int), ([] : List Int)⟩
def k40 : Kd S40 := Kd.iso (Kd.pair (Kd.int .i64) (Kd.pair (Kd.int .i64) (Kd.pair (Kd.int .i64) (Kd.pair (Kd.int .i64) (Kd.pair (Kd.int .u32) (Kd.pair (Kd.int .i64) (Kd.slice 3 (Kd.int .i64)))))))) (fun x : S40 => (x.f0, x.f1, x.f2, x.f3, x.f4, x.f5, x.f6))
theorem k40_heap : Kd.Heap k40 := Kd.heap_iso _ (Kd.heap_pair (Kd.heap_int .i64) (Kd.heap_pair (Kd.heap_int .i64) (Kd.heap_pair (Kd.heap_int .i64) (Kd.heap_pair (Kd.heap_int .i64) (Kd.heap_pair (Kd.heap_int .u32) (Kd.heap_pair (Kd.heap_int .i64) (Kd.heap_slice 3 (Kd.heap_int .i64))))))))
theorem k40_open {w : World} {x : S40} {cs : List Value} (h : k40.K w x cs) : ∃ A6 c6, cs = [.int .i64 x.f0, .int .i64 x.f1, .int .i64 x.f2, .int .i64 x.f3, .int .u32 x.f4, .int .i64 x.f5, .slice A6 x.f6.length c6] ∧ x.f6.length ≤ c6 ∧ (Kd.int .i64).C w A6 x.f6.length x.f6 := by
  obtain ⟨_, _, rfl, rfl, ⟨_, _, rfl, rfl, ⟨_, _, rfl, rfl, ⟨_, _, rfl, rfl, ⟨_, _, rfl, rfl, ⟨_, _, rfl, rfl, ⟨A6, c6, rfl, l6, g6⟩⟩⟩⟩⟩⟩⟩ := h
  exact ⟨A6, c6, rfl, l6, g6⟩
theorem k40_mk (w : World) (x : S40) {A6 : Option Addr} {c6 : Nat} (l6 : x.f6.length ≤ c6) (g6 : (Kd.int .i64).C w A6 x.f6.length x.f6) : k40.K w x [.int .i64 x.f0, .int .i64 x.f1, .int .i64 x.f2, .int .i64 x.f3, .int .u32 x.f4, .int .i64 x.f5, .slice A6 x.f6.length c6] := ⟨[.int .i64 x.f0], [.int .i64 x.f1, .int .i64 x.f2, .int .i64 x.f3, .int .u32 x.f4, .int .i64 x.f5, .slice A6 x.f6.length c6], rfl, rfl, ⟨[.int .i64 x.f1], [.int .i64 x.f2, .int .i64 x.f3, .int .u32 x.f4, .int .i64 x.f5, .slice A6 x.f6.length c6], rfl, rfl, ⟨[.int .i64 x.f2], [.int .i64 x.f3, .int .u32 x.f4, .int .i64 x.f5, .slice A6 x.f6.length c6], rfl, rfl, ⟨[.int .i64 x.f3], [.int .u32 x.f4, .int .i64 x.f5, .slice A6 x.f6.length c6], rfl, rfl, ⟨[.int .u32 x.f4], [.int .i64 x.f5, .slice A6 x.f6.length c6], rfl, rfl, ⟨[.int .i64 x.f5], [.slice A6 x.f6.length c6], rfl, rfl, ⟨A6, c6, rfl, l6, g6⟩⟩⟩⟩⟩⟩⟩
theorem k40_openF {W : World} {ok : Nat → Prop} {x : S40} {cs : List Value} (h : Kd.FK k40 W ok x cs) : ∃ A6 c6, cs = [.int .i64 x.f0, .int .i64 x.f1, .int .i64 x.f2, .int .i64 x.f3, .int .u32 x.f4, .int .i64 x.f5, .slice A6 x.f6.length c6] ∧ x.f6.length ≤ c6 ∧ Kd.F (Kd.int .i64) W ok A6 x.f6.length x.f6 := by
  obtain ⟨A6, c6, rfl, l6, _⟩ := k40_open (Kd.FK_now h)
  exact ⟨A6, c6, rfl, l6, (fun W' hW => by obtain ⟨A6_, c6_, he, l6_, g6_⟩ := k40_open (h W' hW); injection (Option.some.inj (show some (Value.slice A6 x.f6.length c6) = some (Value.slice A6_ x.f6.length c6_) from congrArg (fun l => l[6]?) he)) with ha_ _ _; rw [ha_]; exact g6_)⟩
theorem k40_mkF (W : World) (ok : Nat → Prop) (x : S40) {A6 : Option Addr} {c6 : Nat} (l6 : x.f6.length ≤ c6) (g6 : Kd.F (Kd.int .i64) W ok A6 x.f6.length x.f6) : Kd.FK k40 W ok x [.int .i64 x.f0, .int .i64 x.f1, .int .i64 x.f2, .int .i64 x.f3, .int .u32 x.f4, .int .i64 x.f5, .slice A6 x.f6.length c6] := fun W2 hW => k40_mk W2 x l6 (g6 W2 hW)
def rd_T40 (xs : List S40) (i : Int) : S40 := xs.getD i.toNat z40
theorem at_T40 {w : World} {A : Option Addr} {n : Nat} {xs : List S40} (h : Kd.C k40 w A n xs) (i : Int) (h0 : 0 ≤ i) (h1 : i < n) : ∃ ad A6 c6, A = some ad ∧ w.cell? (ad.add (i.toNat * 7)) = some (.int .i64 (rd_T40 xs i).f0) ∧ w.cell? ⟨(ad.add (i.toNat * 7)).block, (ad.add (i.toNat * 7)).off + 1, none⟩ = some (.int .i64 (rd_T40 xs i).f1) ∧ w.cell? ⟨(ad.add (i.toNat * 7)).block, (ad.add (i.toNat * 7)).off + 2, none⟩ = some (.int .i64 (rd_T40 xs i).f2) ∧ w.cell? ⟨(ad.add (i.toNat * 7)).block, (ad.add (i.toNat * 7)).off + 3, none⟩ = some (.int .i64 (rd_T40 xs i).f3) ∧ w.cell? ⟨(ad.add (i.toNat * 7)).block, (ad.add (i.toNat * 7)).off + 4, none⟩ = some (.int .u32 (rd_T40 xs i).f4) ∧ w.cell? ⟨(ad.add (i.toNat * 7)).block, (ad.add (i.toNat * 7)).off + 5, none⟩ = some (.int .i64 (rd_T40 xs i).f5) ∧ w.cell? ⟨(ad.add (i.toNat * 7)).block, (ad.add (i.toNat * 7)).off + 6, none⟩ = some (.slice A6 (rd_T40 xs i).f6.length c6) ∧ (rd_T40 xs i).f6.length ≤ c6 ∧ (Kd.int .i64).C w A6 (rd_T40 xs i).f6.length (rd_T40 xs i).f6 := by
  obtain ⟨ad, c, e, _, hK, hc0⟩ := Kd.C_get h z40 i h0 h1
  have hc : ∀ j u, c[j]? = some u → w.cell? (ad.add (i.toNat * 7 + j)) = some u := hc0
  obtain ⟨A6, c6, rfl, l6, g6⟩ := k40_open hK
  exact ⟨ad, A6, c6, e, hc 0 _ rfl, by rw [← add_field _ _ 1 (by omega)]; exact hc 1 _ rfl, by rw [← add_field _ _ 2 (by omega)]; exact hc 2 _ rfl, by rw [← add_field _ _ 3 (by omega)]; exact hc 3 _ rfl, by rw [← add_field _ _ 4 (by omega)]; exact hc 4 _ rfl, by rw [← add_field _ _ 5 (by omega)]; exact hc 5 _ rfl, by rw [← add_field _ _ 6 (by omega)]; exact hc 6 _ rfl, l6, g6⟩

end Go.Proofs.YtamimnaafiphcaaDoor.PR1D

-- Written by gp.py for this claim.
namespace Go.Proofs.YtamimnaafiphcaaDoor.PR1D
open Go.RowKit Go.Proofs.YtamimnaafiphcaaDoorW.PrintWords Go.Proofs.YtamimnaafiphcaaDoorW.PrintLast Go.Proofs.YtamimnaafiphcaaDoorW.PrintMore
attribute [local go_sem] max2_int min2_int max_two min_two max_three min_three max_four min_four   -- for this text's walks alone
set_option linter.unusedVariables false
set_option linter.unusedSimpArgs false

/-! ### switchbackref16_Branch: function 51 -/
def switchbackref16_Branch.f (a0 : Int) : Option (Bool) := if a0 ≥ 30 then (some (decide (a0 ≤ 39))) else (some false)
set_option maxHeartbeats 8000000 in
set_option maxRecDepth 100000 in
theorem switchbackref16_Branch.calls (a0 : Int) (r : Bool) (w : World) (h : switchbackref16_Branch.f a0 = some r) :
    Calls Tryd.prog 51 #[.int .i64 a0] w fun e w' => e = .returned (.bool r) ∧ Drawn0 w w' := by
  have H : (if a0 ≥ 30 then (some (decide (a0 ≤ 39))) else (some false)) = some r := h
  clear h
  by_cases c2 : a0 ≥ 30
  · rw [if_pos c2] at H
    have c2b0 : decide (30 ≤ a0) = true := decide_eq_true c2
    clear c2
    obtain rfl := Option.some.inj H
    go_enter Tryd.func51, Tryd.ntmps51
    go_wp2
    go_ret
    exact ⟨by first | rfl | (simp; done) | (simp [*]; done), by repeat (first | exact Drawn0.refl _ | apply Drawn0.step)⟩
  · rw [if_neg c2] at H
    have c2b0 : decide (30 ≤ a0) = false := decide_eq_false c2
    clear c2
    obtain rfl := Option.some.inj H
    go_enter Tryd.func51, Tryd.ntmps51
    go_wp2
    go_ret
    exact ⟨by first | rfl | (simp; done) | (simp [*]; done), by repeat (first | exact Drawn0.refl _ | apply Drawn0.step)⟩

end Go.Proofs.YtamimnaafiphcaaDoor.PR1D

-- Written by gp.py for this claim.
namespace Go.Proofs.YtamimnaafiphcaaDoor.PR1D
open Go.RowKit Go.Proofs.YtamimnaafiphcaaDoorW.PrintWords Go.Proofs.YtamimnaafiphcaaDoorW.PrintLast Go.Proofs.YtamimnaafiphcaaDoorW.PrintMore
attribute [local go_sem] max2_int min2_int max_two min_two max_three min_three max_four min_four   -- for this text's walks alone
set_option linter.unusedVariables false
set_option linter.unusedSimpArgs false

/-! ### switchbackref17_Branch: function 31 -/
def switchbackref17_Branch.f (a0_0 : Int) (a0_1 : Int) (a0_2 : Int) (a0_3 : Int) (a0_4 : Int) (a0_5 : Int) (l0_6 : List Int) : Option (Bool) := (switchbackref16_Branch.f a0_0).bind fun t167 => (if t167 = true then (some true) else (some (a0_0 == 40)))
set_option maxHeartbeats 8000000 in
set_option maxRecDepth 100000 in
theorem switchbackref17_Branch.calls (a0_0 : Int) (a0_1 : Int) (a0_2 : Int) (a0_3 : Int) (a0_4 : Int) (a0_5 : Int) (A0_6 : Option Addr) (c0_6 : Nat) (l0_6 : List Int) (r : Bool) (w : World) (hr0_6 : Kd.C (Kd.int .i64) w A0_6 l0_6.length l0_6) (hc0_6 : l0_6.length ≤ c0_6) (h : switchbackref17_Branch.f a0_0 a0_1 a0_2 a0_3 a0_4 a0_5 l0_6 = some r) :
    Calls Tryd.prog 31 #[.agg #[.int .i64 a0_0, .int .i64 a0_1, .int .i64 a0_2, .int .i64 a0_3, .int .u32 a0_4, .int .i64 a0_5, .slice A0_6 l0_6.length c0_6]] w fun e w' => e = .returned (.bool r) ∧ Below w.heap.size w w' := by
  have hu40 := Tryd.underlying40
  have HR0_6 := Aside0.mk hr0_6
  have HC0_6 := Aside0.mk hc0_6
  clear hr0_6 hc0_6
  have HB := Aside0.mk (Below.refl w.heap.size w)
  have H : ((switchbackref16_Branch.f a0_0).bind fun t167 => (if t167 = true then (some true) else (some (a0_0 == 40)))) = some r := h
  clear h
  replace H := Option.bind_eq_some_iff.mp H
  obtain ⟨t167, A20, H⟩ := H
  replace H : (if t167 = true then (some true) else (some (a0_0 == 40))) = some r := H
  have A2 := Aside0.mk A20
  clear A20
  by_cases c3 : t167 = true
  · subst c3
    have H1 : (some true) = some r := by rw [if_pos rfl] at H; exact H
    clear H
    have H := H1
    clear H1
    obtain rfl := Option.some.inj H
    go_enter Tryd.func31, Tryd.ntmps31
    go_wp2_with (first | ((with_reducible refine gate_dst (N := 1) rfl ?_); refine box_event ?hg (N := 1) ?hd (cs := #[.int .i64 a0_0, .int .i64 a0_1, .int .i64 a0_2, .int .i64 a0_3, .int .u32 a0_4, .int .i64 a0_5, .slice A0_6 l0_6.length c0_6]) (t := 40) ?hr ?_; (case hd => rfl); (case hg => rfl); (case hr => first | (go_simp; done) | (go_simp; rfl)); intro gb166 hg w4 hbox hb; have n0_ := Aside0.mk (below_step (by repeat (first | (with_reducible first | exact HB.out | apply below_alloc | apply pw_below_drewN | apply below_drew1) | exact HB.out)) hb); have n1_ := Aside0.mk (hbox); have n2_ := Aside0.mk ((by rw [hg]; exact (below_size (by repeat (first | (with_reducible first | exact HB.out | apply below_alloc | apply pw_below_drewN | apply below_drew1) | exact HB.out))) : w.heap.size ≤ gb166)); have n3_ := Aside0.mk ((by rw [hg]; exact (below_size (by repeat (first | (with_reducible first | exact HB.out | apply below_alloc | apply pw_below_drewN | apply below_drew1) | exact HB.out))) : w.heap.size ≤ gb166)); clear HB; have HB := n0_; have BK166 := n1_; have GW166 := n2_; have GE166 := n3_; clear n0_ n1_ n2_ n3_; clear hb hbox hg; have hcz5_0 : w4.cell? ⟨gb166, 0, none⟩ = some (.int .i64 a0_0) := (blk_cell BK166.out 0).trans rfl; have hcz5_1 : w4.cell? ⟨gb166, 1, none⟩ = some (.int .i64 a0_1) := (blk_cell BK166.out 1).trans rfl; have hcz5_2 : w4.cell? ⟨gb166, 2, none⟩ = some (.int .i64 a0_2) := (blk_cell BK166.out 2).trans rfl; have hcz5_3 : w4.cell? ⟨gb166, 3, none⟩ = some (.int .i64 a0_3) := (blk_cell BK166.out 3).trans rfl; have hcz5_4 : w4.cell? ⟨gb166, 4, none⟩ = some (.int .u32 a0_4) := (blk_cell BK166.out 4).trans rfl; have hcz5_5 : w4.cell? ⟨gb166, 5, none⟩ = some (.int .i64 a0_5) := (blk_cell BK166.out 5).trans rfl; have hcz5_6 : w4.cell? ⟨gb166, 6, none⟩ = some (.slice A0_6 l0_6.length c0_6) := (blk_cell BK166.out 6).trans rfl; have hfz5_0 := blk_frozen BK166.out 0; have hfz5_1 := blk_frozen BK166.out 1; have hfz5_2 := blk_frozen BK166.out 2; have hfz5_3 := blk_frozen BK166.out 3; have hfz5_4 := blk_frozen BK166.out 4; have hfz5_5 := blk_frozen BK166.out 5; have hfz5_6 := blk_frozen BK166.out 6) | ((with_reducible refine gate_callee (f := 51) rfl ?_); refine goesL_ (some 5) rfl rfl Tryd.func51 (by kernel_rfl) rfl #[.int .i64 a0_0] rfl (by (try simp only [List.map_toArray, List.map_cons, List.map_nil]); first | done | rfl | (simp only [List.length_drop, List.length_take]; rfl)) ?_; (with_reducible refine (switchbackref16_Branch.calls a0_0 true _ A2.out).mono ?_); rintro e w' ⟨rfl, ⟨nd, rfl⟩⟩; refine ⟨_, rfl, ?_⟩))
    go_ret
    exact ⟨by first | rfl | (simp [errW_none, errW_some] <;> rfl) | (simp [*, errW_none, errW_some] <;> rfl), by repeat (first | (with_reducible first | exact HB.out | apply below_alloc | apply pw_below_drewN | apply below_drew1 | refine below_set ?_ GE166.out) | exact HB.out)⟩
  · replace c3 := Bool.eq_false_iff.mpr c3
    subst c3
    have H1 : (some (a0_0 == 40)) = some r := by rw [if_neg (show ¬ (false = true) by decide)] at H; exact H
    clear H
    have H := H1
    clear H1
    obtain rfl := Option.some.inj H
    go_enter Tryd.func31, Tryd.ntmps31
    go_wp2_with (first | ((with_reducible refine gate_dst (N := 1) rfl ?_); refine box_event ?hg (N := 1) ?hd (cs := #[.int .i64 a0_0, .int .i64 a0_1, .int .i64 a0_2, .int .i64 a0_3, .int .u32 a0_4, .int .i64 a0_5, .slice A0_6 l0_6.length c0_6]) (t := 40) ?hr ?_; (case hd => rfl); (case hg => rfl); (case hr => first | (go_simp; done) | (go_simp; rfl)); intro gb166 hg w6 hbox hb; have n0_ := Aside0.mk (below_step (by repeat (first | (with_reducible first | exact HB.out | apply below_alloc | apply pw_below_drewN | apply below_drew1) | exact HB.out)) hb); have n1_ := Aside0.mk (hbox); have n2_ := Aside0.mk ((by rw [hg]; exact (below_size (by repeat (first | (with_reducible first | exact HB.out | apply below_alloc | apply pw_below_drewN | apply below_drew1) | exact HB.out))) : w.heap.size ≤ gb166)); have n3_ := Aside0.mk ((by rw [hg]; exact (below_size (by repeat (first | (with_reducible first | exact HB.out | apply below_alloc | apply pw_below_drewN | apply below_drew1) | exact HB.out))) : w.heap.size ≤ gb166)); clear HB; have HB := n0_; have BK166 := n1_; have GW166 := n2_; have GE166 := n3_; clear n0_ n1_ n2_ n3_; clear hb hbox hg; have hcz7_0 : w6.cell? ⟨gb166, 0, none⟩ = some (.int .i64 a0_0) := (blk_cell BK166.out 0).trans rfl; have hcz7_1 : w6.cell? ⟨gb166, 1, none⟩ = some (.int .i64 a0_1) := (blk_cell BK166.out 1).trans rfl; have hcz7_2 : w6.cell? ⟨gb166, 2, none⟩ = some (.int .i64 a0_2) := (blk_cell BK166.out 2).trans rfl; have hcz7_3 : w6.cell? ⟨gb166, 3, none⟩ = some (.int .i64 a0_3) := (blk_cell BK166.out 3).trans rfl; have hcz7_4 : w6.cell? ⟨gb166, 4, none⟩ = some (.int .u32 a0_4) := (blk_cell BK166.out 4).trans rfl; have hcz7_5 : w6.cell? ⟨gb166, 5, none⟩ = some (.int .i64 a0_5) := (blk_cell BK166.out 5).trans rfl; have hcz7_6 : w6.cell? ⟨gb166, 6, none⟩ = some (.slice A0_6 l0_6.length c0_6) := (blk_cell BK166.out 6).trans rfl; have hfz7_0 := blk_frozen BK166.out 0; have hfz7_1 := blk_frozen BK166.out 1; have hfz7_2 := blk_frozen BK166.out 2; have hfz7_3 := blk_frozen BK166.out 3; have hfz7_4 := blk_frozen BK166.out 4; have hfz7_5 := blk_frozen BK166.out 5; have hfz7_6 := blk_frozen BK166.out 6) | ((with_reducible refine gate_callee (f := 51) rfl ?_); refine goesL_ (some 5) rfl rfl Tryd.func51 (by kernel_rfl) rfl #[.int .i64 a0_0] rfl (by (try simp only [List.map_toArray, List.map_cons, List.map_nil]); first | done | rfl | (simp only [List.length_drop, List.length_take]; rfl)) ?_; (with_reducible refine (switchbackref16_Branch.calls a0_0 false _ A2.out).mono ?_); rintro e w' ⟨rfl, ⟨nd, rfl⟩⟩; refine ⟨_, rfl, ?_⟩))
    go_ret
    exact ⟨by first | rfl | (simp [errW_none, errW_some] <;> rfl) | (simp [*, errW_none, errW_some] <;> rfl), by repeat (first | (with_reducible first | exact HB.out | apply below_alloc | apply pw_below_drewN | apply below_drew1 | refine below_set ?_ GE166.out) | exact HB.out)⟩

end Go.Proofs.YtamimnaafiphcaaDoor.PR1D

-- Written by gp.py for this claim.
namespace Go.Proofs.YtamimnaafiphcaaDoor.PR1D
open Go.RowKit Go.Proofs.YtamimnaafiphcaaDoorW.PrintWords Go.Proofs.YtamimnaafiphcaaDoorW.PrintLast Go.Proofs.YtamimnaafiphcaaDoorW.PrintMore
attribute [local go_sem] max2_int min2_int max_two min_two max_three min_three max_four min_four   -- for this text's walks alone
set_option linter.unusedVariables false
set_option linter.unusedSimpArgs false

namespace q_switchbackref17_Size
theorem uZ {p : Prop} (h : p) : Aside0 p := ⟨h⟩
theorem uK {p q : Prop} (h : p) (g : p → q := by intro h; (with_reducible repeat (first | apply blk_drewN | apply blk_drew | apply blk_alloc)); exact h) : q := g h
theorem uB {p q : Prop} (h : p) (g : p → q := by intro h; repeat (first | (with_reducible first | exact h | apply below_alloc | apply pw_below_drewN | apply below_drew1) | exact h)) : q := g h
theorem uC {p q s : Prop} (h : p) (j : s) (g : p → s → q := by intro h j; repeat (first | (with_reducible first | exact h | apply below_alloc | apply pw_below_drewN | apply below_drew1 | refine below_set ?_ j) | exact h)) : q := g h j
theorem zA : type_of% @pw_below_drewN := @pw_below_drewN
theorem zB : type_of% @blk_frozen := @blk_frozen
theorem zC : type_of% @blk_cell := @blk_cell
end q_switchbackref17_Size
open q_switchbackref17_Size

/-! ### switchbackref17_Size: function 55 -/
mutual
def switchbackref17_Size.j0 : Nat → Bool → Bool → Int → Int → Int → Int → Int → Int → List Int → Option (Int)
  | 0, _, _, _, _, _, _, _, _, _ => none
  | k + 1, x1, x13, x152000, x152001, x152002, x152003, x152004, x152005, x152006 => if x13 = true then (some 3) else (if x152000 = 40 then (if x1 = true then (switchbackref17_Size.j1 k true x152000 x152001 x152002 x152003 x152004 x152005 x152006) else (if x152000 = 41 then (switchbackref17_Size.j1 k true x152000 x152001 x152002 x152003 x152004 x152005 x152006) else (if x152000 = 43 then (switchbackref17_Size.j1 k true x152000 x152001 x152002 x152003 x152004 x152005 x152006) else (switchbackref17_Size.j1 k (x152000 == 2) x152000 x152001 x152002 x152003 x152004 x152005 x152006)))) else (if x152000 = 41 then (switchbackref17_Size.j1 k true x152000 x152001 x152002 x152003 x152004 x152005 x152006) else (if x152000 = 43 then (switchbackref17_Size.j1 k true x152000 x152001 x152002 x152003 x152004 x152005 x152006) else (switchbackref17_Size.j1 k (x152000 == 2) x152000 x152001 x152002 x152003 x152004 x152005 x152006))))
def switchbackref17_Size.j1 : Nat → Bool → Int → Int → Int → Int → Int → Int → List Int → Option (Int)
  | 0, _, _, _, _, _, _, _, _ => none
  | k + 1, x18, x152000, x152001, x152002, x152003, x152004, x152005, x152006 => if x18 = true then (some 2) else (if x152000 = 42 then (some (wrap64 (2 + (x152006.length : Int)))) else (some 1))
end
def switchbackref17_Size.f (k : Nat) (a0_0 : Int) (a0_1 : Int) (a0_2 : Int) (a0_3 : Int) (a0_4 : Int) (a0_5 : Int) (l0_6 : List Int) (a1 : Bool) : Option (Int) := (switchbackref16_Branch.f a0_0).bind fun t152 => (if a0_0 = 0 then (some 0) else (if t152 = true then (switchbackref17_Size.j0 k a1 a1 a0_0 a0_1 a0_2 a0_3 a0_4 a0_5 l0_6) else (switchbackref17_Size.j0 k a1 false a0_0 a0_1 a0_2 a0_3 a0_4 a0_5 l0_6)))
theorem switchbackref17_Size.mono_l : ∀ k, (∀ y0 y1 y2 y3 y4 y5 y6 y7 y8, LeO (switchbackref17_Size.j0 k y0 y1 y2 y3 y4 y5 y6 y7 y8) (switchbackref17_Size.j0 (k + 1) y0 y1 y2 y3 y4 y5 y6 y7 y8)) ∧ (∀ y0 y1 y2 y3 y4 y5 y6 y7, LeO (switchbackref17_Size.j1 k y0 y1 y2 y3 y4 y5 y6 y7) (switchbackref17_Size.j1 (k + 1) y0 y1 y2 y3 y4 y5 y6 y7))
  | 0 => ⟨fun _ _ _ _ _ _ _ _ _ r h => by simp [switchbackref17_Size.j0] at h, fun _ _ _ _ _ _ _ _ r h => by simp [switchbackref17_Size.j1] at h⟩
  | k + 1 => by
    obtain ⟨ih0, ih1⟩ := switchbackref17_Size.mono_l k
    refine ⟨?_, ?_⟩
    · intro y0 y1 y2 y3 y4 y5 y6 y7 y8
      unfold switchbackref17_Size.j0
      repeat' first
      | (with_reducible exact ih0 _ _ _ _ _ _ _ _ _)
      | (with_reducible exact ih1 _ _ _ _ _ _ _ _)
      | (with_reducible exact LeO.refl _)
      | (with_reducible exact LeO.none _)
      | (with_reducible refine LeO.ite ?_ ?_)
      | (with_reducible refine LeO.bind ?_ (fun _ => ?_))
      | exact ih0 _ _ _ _ _ _ _ _ _
      | exact ih1 _ _ _ _ _ _ _ _
      | exact LeO.none _
      | refine LeO.ite ?_ ?_
      | refine LeO.bind ?_ (fun _ => ?_)
    · intro y0 y1 y2 y3 y4 y5 y6 y7
      unfold switchbackref17_Size.j1
      repeat' first
      | (with_reducible exact ih0 _ _ _ _ _ _ _ _ _)
      | (with_reducible exact ih1 _ _ _ _ _ _ _ _)
      | (with_reducible exact LeO.refl _)
      | (with_reducible exact LeO.none _)
      | (with_reducible refine LeO.ite ?_ ?_)
      | (with_reducible refine LeO.bind ?_ (fun _ => ?_))
      | exact ih0 _ _ _ _ _ _ _ _ _
      | exact ih1 _ _ _ _ _ _ _ _
      | exact LeO.none _
      | refine LeO.ite ?_ ?_
      | refine LeO.bind ?_ (fun _ => ?_)
theorem switchbackref17_Size.mono : ∀ a0 a1 a2 a3 a4 a5 a6 a7 k, LeO (switchbackref17_Size.f k a0 a1 a2 a3 a4 a5 a6 a7) (switchbackref17_Size.f (k + 1) a0 a1 a2 a3 a4 a5 a6 a7) := by
  intro a0 a1 a2 a3 a4 a5 a6 a7 k
  obtain ⟨ih0, ih1⟩ := switchbackref17_Size.mono_l k
  unfold switchbackref17_Size.f
  repeat' first
      | (with_reducible exact ih0 _ _ _ _ _ _ _ _ _)
      | (with_reducible exact ih1 _ _ _ _ _ _ _ _)
      | (with_reducible exact LeO.refl _)
      | (with_reducible exact LeO.none _)
      | (with_reducible refine LeO.ite ?_ ?_)
      | (with_reducible refine LeO.bind ?_ (fun _ => ?_))
      | exact ih0 _ _ _ _ _ _ _ _ _
      | exact ih1 _ _ _ _ _ _ _ _
      | exact LeO.none _
      | refine LeO.ite ?_ ?_
      | refine LeO.bind ?_ (fun _ => ?_)
set_option maxHeartbeats 8000000 in
set_option maxRecDepth 100000 in
theorem switchbackref17_Size.calls (k : Nat) (a0_0 : Int) (a0_1 : Int) (a0_2 : Int) (a0_3 : Int) (a0_4 : Int) (a0_5 : Int) (A0_6 : Option Addr) (c0_6 : Nat) (l0_6 : List Int) (a1 : Bool) (r : Int) (w : World) (hr0_6 : Kd.C (Kd.int .i64) w A0_6 l0_6.length l0_6) (hc0_6 : l0_6.length ≤ c0_6) (h : switchbackref17_Size.f k a0_0 a0_1 a0_2 a0_3 a0_4 a0_5 l0_6 a1 = some r) :
    Calls Tryd.prog 55 #[.agg #[.int .i64 a0_0, .int .i64 a0_1, .int .i64 a0_2, .int .i64 a0_3, .int .u32 a0_4, .int .i64 a0_5, .slice A0_6 l0_6.length c0_6], .bool a1] w fun e w' => e = .returned (.int .i64 r) ∧ Below w.heap.size w w' := by
 have hu40 := Tryd.underlying40
 have HR0_6 := uZ hr0_6
 have HC0_6 := uZ hc0_6
 clear hr0_6 hc0_6
 have HB := uZ (Below.refl w.heap.size w)
 have H : ((switchbackref16_Branch.f a0_0).bind fun t152 => (if a0_0 = 0 then (some 0) else (if t152 = true then (switchbackref17_Size.j0 k a1 a1 a0_0 a0_1 a0_2 a0_3 a0_4 a0_5 l0_6) else (switchbackref17_Size.j0 k a1 false a0_0 a0_1 a0_2 a0_3 a0_4 a0_5 l0_6)))) = some r := h
 clear h
 replace H := Option.bind_eq_some_iff.mp H
 obtain ⟨t152, A30, H⟩ := H
 replace H : (if a0_0 = 0 then (some 0) else (if t152 = true then (switchbackref17_Size.j0 k a1 a1 a0_0 a0_1 a0_2 a0_3 a0_4 a0_5 l0_6) else (switchbackref17_Size.j0 k a1 false a0_0 a0_1 a0_2 a0_3 a0_4 a0_5 l0_6))) = some r := H
 have A3 := uZ A30
 clear A30
 by_cases c4 : a0_0 = 0
 ·rw [if_pos c4] at H
  have c4b0 : (a0_0 == 0) = true := beq_iff_eq.mpr c4
  have c4b1 : (a0_0 != 0) = false := bne_eq_false_iff_eq.mpr c4
  clear c4
  obtain rfl := Option.some.inj H
  go_enter Tryd.func55, Tryd.ntmps55
  go_wp2_with (first | ((with_reducible refine gate_dst (N := 2) rfl ?_); refine box_event ?hg (N := 2) ?hd (cs := #[.int .i64 a0_0, .int .i64 a0_1, .int .i64 a0_2, .int .i64 a0_3, .int .u32 a0_4, .int .i64 a0_5, .slice A0_6 l0_6.length c0_6]) (t := 40) ?hr ?_; (case hd => rfl); (case hg => rfl); (case hr => first | (go_simp; done) | (go_simp; rfl)); intro a9 hg w5 hbox hb; have n0_ := uZ (below_step (uB HB.out) hb); have n1_ := uZ (hbox); have n2_ := uZ ((by rw [hg]; exact (below_size (uB HB.out)) : w.heap.size ≤ a9)); have n3_ := uZ ((by rw [hg]; exact (below_size (uB HB.out)) : w.heap.size ≤ a9)); clear HB; have HB := n0_; have a8 := n1_; have GW151 := n2_; have aa := n3_; clear n0_ n1_ n2_ n3_; clear hb hbox hg; have hcz6_0 : w5.cell? ⟨a9, 0, none⟩ = some (.int .i64 a0_0) := (zC a8.out 0).trans rfl; have hcz6_1 : w5.cell? ⟨a9, 1, none⟩ = some (.int .i64 a0_1) := (zC a8.out 1).trans rfl; have hcz6_2 : w5.cell? ⟨a9, 2, none⟩ = some (.int .i64 a0_2) := (zC a8.out 2).trans rfl; have hcz6_3 : w5.cell? ⟨a9, 3, none⟩ = some (.int .i64 a0_3) := (zC a8.out 3).trans rfl; have hcz6_4 : w5.cell? ⟨a9, 4, none⟩ = some (.int .u32 a0_4) := (zC a8.out 4).trans rfl; have hcz6_5 : w5.cell? ⟨a9, 5, none⟩ = some (.int .i64 a0_5) := (zC a8.out 5).trans rfl; have hcz6_6 : w5.cell? ⟨a9, 6, none⟩ = some (.slice A0_6 l0_6.length c0_6) := (zC a8.out 6).trans rfl; have hfz6_0 := zB a8.out 0; have hfz6_1 := zB a8.out 1; have hfz6_2 := zB a8.out 2; have hfz6_3 := zB a8.out 3; have hfz6_4 := zB a8.out 4; have hfz6_5 := zB a8.out 5; have hfz6_6 := zB a8.out 6) | ((with_reducible refine gate_callee (f := 51) rfl ?_); refine goesL_ (some 8) rfl rfl Tryd.func51 (by kernel_rfl) rfl #[.int .i64 a0_0] rfl (by (try simp only [List.map_toArray, List.map_cons, List.map_nil]); first | done | rfl | (simp only [List.length_drop, List.length_take]; rfl)) ?_; (with_reducible refine (switchbackref16_Branch.calls a0_0 t152 _ A3.out).mono ?_); rintro e w' ⟨rfl, ⟨nd, rfl⟩⟩; refine ⟨_, rfl, ?_⟩))
  go_ret
  exact ⟨by first | rfl | (simp [errW_none, errW_some] <;> rfl) | (simp [*, errW_none, errW_some] <;> rfl), by repeat (first | (with_reducible first | exact HB.out | apply below_alloc | apply zA | apply below_drew1 | refine below_set ?_ aa.out) | exact HB.out)⟩
 rw [if_neg c4] at H
 have c4b0 : (a0_0 == 0) = false := beq_eq_false_iff_ne.mpr c4
 have c4b1 : (a0_0 != 0) = true := bne_iff_ne.mpr c4
 have HC7 := uZ H
 clear H
 go_enter Tryd.func55, Tryd.ntmps55
 go_upto_region 4 with (first | ((with_reducible refine gate_dst (N := 2) rfl ?_); refine box_event ?hg (N := 2) ?hd (cs := #[.int .i64 a0_0, .int .i64 a0_1, .int .i64 a0_2, .int .i64 a0_3, .int .u32 a0_4, .int .i64 a0_5, .slice A0_6 l0_6.length c0_6]) (t := 40) ?hr ?_; (case hd => rfl); (case hg => rfl); (case hr => first | (go_simp; done) | (go_simp; rfl)); intro a9 hg w8 hbox hb; have n0_ := uZ (below_step (uB HB.out) hb); have n1_ := uZ (hbox); have n2_ := uZ ((by rw [hg]; exact (below_size (uB HB.out)) : w.heap.size ≤ a9)); have n3_ := uZ ((by rw [hg]; exact (below_size (uB HB.out)) : w.heap.size ≤ a9)); clear HB; have HB := n0_; have a8 := n1_; have GW151 := n2_; have aa := n3_; clear n0_ n1_ n2_ n3_; clear hb hbox hg; have hcz9_0 : w8.cell? ⟨a9, 0, none⟩ = some (.int .i64 a0_0) := (zC a8.out 0).trans rfl; have hcz9_1 : w8.cell? ⟨a9, 1, none⟩ = some (.int .i64 a0_1) := (zC a8.out 1).trans rfl; have hcz9_2 : w8.cell? ⟨a9, 2, none⟩ = some (.int .i64 a0_2) := (zC a8.out 2).trans rfl; have hcz9_3 : w8.cell? ⟨a9, 3, none⟩ = some (.int .i64 a0_3) := (zC a8.out 3).trans rfl; have hcz9_4 : w8.cell? ⟨a9, 4, none⟩ = some (.int .u32 a0_4) := (zC a8.out 4).trans rfl; have hcz9_5 : w8.cell? ⟨a9, 5, none⟩ = some (.int .i64 a0_5) := (zC a8.out 5).trans rfl; have hcz9_6 : w8.cell? ⟨a9, 6, none⟩ = some (.slice A0_6 l0_6.length c0_6) := (zC a8.out 6).trans rfl; have hfz9_0 := zB a8.out 0; have hfz9_1 := zB a8.out 1; have hfz9_2 := zB a8.out 2; have hfz9_3 := zB a8.out 3; have hfz9_4 := zB a8.out 4; have hfz9_5 := zB a8.out 5; have hfz9_6 := zB a8.out 6) | ((with_reducible refine gate_callee (f := 51) rfl ?_); refine goesL_ (some 8) rfl rfl Tryd.func51 (by kernel_rfl) rfl #[.int .i64 a0_0] rfl (by (try simp only [List.map_toArray, List.map_cons, List.map_nil]); first | done | rfl | (simp only [List.length_drop, List.length_take]; rfl)) ?_; (with_reducible refine (switchbackref16_Branch.calls a0_0 t152 _ A3.out).mono ?_); rintro e w' ⟨rfl, ⟨nd, rfl⟩⟩; refine ⟨_, rfl, ?_⟩))
 (try simp only [Act.put, List.setIfInBounds_toArray, List.set_cons_zero, List.set_cons_succ])
 go_cut [13] (fun v13 wc => ∃ (kq : Nat) (x13_6 : Bool), v13 = .bool x13_6 ∧ Aside0 (switchbackref17_Size.j0 kq a1 x13_6 a0_0 a0_1 a0_2 a0_3 a0_4 a0_5 l0_6 = some r) ∧ Aside0 (kq ≤ k) ∧ Aside0 (wc.heap[a9]? = some (.cells #[.int .i64 a0_0, .int .i64 a0_1, .int .i64 a0_2, .int .i64 a0_3, .int .u32 a0_4, .int .i64 a0_5, (.slice A0_6 l0_6.length c0_6)] 40 (0, 0))) ∧ Aside0 (Below w.heap.size w wc))
 case first =>
  have H := HC7.out
  clear HC7
  by_cases c10 : t152 = true
  ·subst c10
   have H1 : (switchbackref17_Size.j0 k a1 a1 a0_0 a0_1 a0_2 a0_3 a0_4 a0_5 l0_6) = some r := by rw [if_pos rfl] at H; exact H
   clear H
   have H := H1
   clear H1
   have H' := uZ H
   clear H
   go_wp2
   go_meet
   case rel => exact ⟨_, (a1), (by first | rfl | (simp; done) | (simp [*]; done)), H', ⟨by first | omega | exact Nat.le_refl _⟩, ⟨uK a8.out⟩, ⟨uC HB.out aa.out⟩⟩
  replace c10 := Bool.eq_false_iff.mpr c10
  subst c10
  have H1 : (switchbackref17_Size.j0 k a1 false a0_0 a0_1 a0_2 a0_3 a0_4 a0_5 l0_6) = some r := by rw [if_neg (show ¬ (false = true) by decide)] at H; exact H
  clear H
  have H := H1
  clear H1
  have H' := uZ H
  clear H
  go_wp2
  go_meet
  case rel => exact ⟨_, (false), (by first | rfl | (simp; done) | (simp [*]; done)), H', ⟨by first | omega | exact Nat.le_refl _⟩, ⟨uK a8.out⟩, ⟨uC HB.out aa.out⟩⟩
 case rest =>
  clear HC7
  try clear c1
  try clear p2
  try clear c4
  try clear c4b0
  try clear c4b1
  try clear c5
  try clear c10
  try clear hcz6_0
  try clear hcz6_1
  try clear hcz6_2
  try clear hcz6_3
  try clear hcz6_4
  try clear hcz6_5
  try clear hcz6_6
  try clear hcz9_0
  try clear hcz9_1
  try clear hcz9_2
  try clear hcz9_3
  try clear hcz9_4
  try clear hcz9_5
  try clear hcz9_6
  try clear hfz6_0
  try clear hfz6_1
  try clear hfz6_2
  try clear hfz6_3
  try clear hfz6_4
  try clear hfz6_5
  try clear hfz6_6
  try clear hfz9_0
  try clear hfz9_1
  try clear hfz9_2
  try clear hfz9_3
  try clear hfz9_4
  try clear hfz9_5
  try clear hfz9_6
  obtain ⟨kq, x13_6, rfl, HA, HJ6, a8, HB⟩ := hcut
  cases kq with
  | zero => exact absurd HA.out (by simp [switchbackref17_Size.j0])
  | succ kj6 =>
   have H := HA.out
   clear HA
   simp only [switchbackref17_Size.j0] at H
   by_cases c11 : x13_6 = true
   ·subst c11
    have H1 : (some 3) = some r := by rw [if_pos rfl] at H; exact H
    clear H
    have H := H1
    clear H1
    obtain rfl := Option.some.inj H
    go_wp2
    go_ret
    exact ⟨by first | rfl | (simp [errW_none, errW_some] <;> rfl) | (simp [*, errW_none, errW_some] <;> rfl), by repeat (first | (with_reducible first | exact HB.out | apply below_alloc | apply zA | apply below_drew1 | refine below_set ?_ aa.out) | exact HB.out)⟩
   replace c11 := Bool.eq_false_iff.mpr c11
   subst c11
   have H1 : (if a0_0 = 40 then (if a1 = true then (switchbackref17_Size.j1 kj6 true a0_0 a0_1 a0_2 a0_3 a0_4 a0_5 l0_6) else (if a0_0 = 41 then (switchbackref17_Size.j1 kj6 true a0_0 a0_1 a0_2 a0_3 a0_4 a0_5 l0_6) else (if a0_0 = 43 then (switchbackref17_Size.j1 kj6 true a0_0 a0_1 a0_2 a0_3 a0_4 a0_5 l0_6) else (switchbackref17_Size.j1 kj6 (a0_0 == 2) a0_0 a0_1 a0_2 a0_3 a0_4 a0_5 l0_6)))) else (if a0_0 = 41 then (switchbackref17_Size.j1 kj6 true a0_0 a0_1 a0_2 a0_3 a0_4 a0_5 l0_6) else (if a0_0 = 43 then (switchbackref17_Size.j1 kj6 true a0_0 a0_1 a0_2 a0_3 a0_4 a0_5 l0_6) else (switchbackref17_Size.j1 kj6 (a0_0 == 2) a0_0 a0_1 a0_2 a0_3 a0_4 a0_5 l0_6)))) = some r := by rw [if_neg (show ¬ (false = true) by decide)] at H; exact H
   clear H
   have H := H1
   clear H1
   have HC12 := uZ H
   clear H
   go_upto_region 6 with (fail)
   go_cut [18] (fun v18 wc => ∃ (kq : Nat) (x18_11 : Bool), v18 = .bool x18_11 ∧ Aside0 (switchbackref17_Size.j1 kq x18_11 a0_0 a0_1 a0_2 a0_3 a0_4 a0_5 l0_6 = some r) ∧ Aside0 (kq ≤ kj6) ∧ Aside0 (wc.heap[a9]? = some (.cells #[.int .i64 a0_0, .int .i64 a0_1, .int .i64 a0_2, .int .i64 a0_3, .int .u32 a0_4, .int .i64 a0_5, (.slice A0_6 l0_6.length c0_6)] 40 (0, 0))) ∧ Aside0 (Below w.heap.size w wc))
   case first =>
    have H := HC12.out
    clear HC12
    by_cases c13 : a0_0 = 40
    ·rw [if_pos c13] at H
     have c13b0 : (a0_0 == 40) = true := beq_iff_eq.mpr c13
     have c13b1 : (a0_0 != 40) = false := bne_eq_false_iff_eq.mpr c13
     clear c13
     (first | rw [c13b0] | (simp only [i64_w, i32_w]; rw [c13b0]) | skip)
     by_cases c14 : a1 = true
     ·subst c14
      have H1 : (switchbackref17_Size.j1 kj6 true a0_0 a0_1 a0_2 a0_3 a0_4 a0_5 l0_6) = some r := by rw [if_pos rfl] at H; exact H
      clear H
      have H := H1
      clear H1
      have H' := uZ H
      clear H
      have hcz15_0 : wc.cell? ⟨a9, 0, none⟩ = some (.int .i64 a0_0) := (zC a8.out 0).trans rfl
      have hcz15_1 : wc.cell? ⟨a9, 1, none⟩ = some (.int .i64 a0_1) := (zC a8.out 1).trans rfl
      have hcz15_2 : wc.cell? ⟨a9, 2, none⟩ = some (.int .i64 a0_2) := (zC a8.out 2).trans rfl
      have hcz15_3 : wc.cell? ⟨a9, 3, none⟩ = some (.int .i64 a0_3) := (zC a8.out 3).trans rfl
      have hcz15_4 : wc.cell? ⟨a9, 4, none⟩ = some (.int .u32 a0_4) := (zC a8.out 4).trans rfl
      have hcz15_5 : wc.cell? ⟨a9, 5, none⟩ = some (.int .i64 a0_5) := (zC a8.out 5).trans rfl
      have hcz15_6 : wc.cell? ⟨a9, 6, none⟩ = some (.slice A0_6 l0_6.length c0_6) := (zC a8.out 6).trans rfl
      have hfz15_0 := zB a8.out 0
      have hfz15_1 := zB a8.out 1
      have hfz15_2 := zB a8.out 2
      have hfz15_3 := zB a8.out 3
      have hfz15_4 := zB a8.out 4
      have hfz15_5 := zB a8.out 5
      have hfz15_6 := zB a8.out 6
      go_wp2
      go_meet
      case rel => exact ⟨_, (true), (by first | rfl | (simp; done) | (simp [*]; done)), H', ⟨by have := HJ6.out; first | omega | exact Nat.le_refl _⟩, ⟨uK a8.out⟩, ⟨uC HB.out aa.out⟩⟩
     replace c14 := Bool.eq_false_iff.mpr c14
     subst c14
     have H1 : (if a0_0 = 41 then (switchbackref17_Size.j1 kj6 true a0_0 a0_1 a0_2 a0_3 a0_4 a0_5 l0_6) else (if a0_0 = 43 then (switchbackref17_Size.j1 kj6 true a0_0 a0_1 a0_2 a0_3 a0_4 a0_5 l0_6) else (switchbackref17_Size.j1 kj6 (a0_0 == 2) a0_0 a0_1 a0_2 a0_3 a0_4 a0_5 l0_6))) = some r := by rw [if_neg (show ¬ (false = true) by decide)] at H; exact H
     clear H
     have H := H1
     clear H1
     by_cases c16 : a0_0 = 41
     ·rw [if_pos c16] at H
      have c16b0 : (a0_0 == 41) = true := beq_iff_eq.mpr c16
      have c16b1 : (a0_0 != 41) = false := bne_eq_false_iff_eq.mpr c16
      clear c16
      have H' := uZ H
      clear H
      have hcz17_0 : wc.cell? ⟨a9, 0, none⟩ = some (.int .i64 a0_0) := (zC a8.out 0).trans rfl
      have hcz17_1 : wc.cell? ⟨a9, 1, none⟩ = some (.int .i64 a0_1) := (zC a8.out 1).trans rfl
      have hcz17_2 : wc.cell? ⟨a9, 2, none⟩ = some (.int .i64 a0_2) := (zC a8.out 2).trans rfl
      have hcz17_3 : wc.cell? ⟨a9, 3, none⟩ = some (.int .i64 a0_3) := (zC a8.out 3).trans rfl
      have hcz17_4 : wc.cell? ⟨a9, 4, none⟩ = some (.int .u32 a0_4) := (zC a8.out 4).trans rfl
      have hcz17_5 : wc.cell? ⟨a9, 5, none⟩ = some (.int .i64 a0_5) := (zC a8.out 5).trans rfl
      have hcz17_6 : wc.cell? ⟨a9, 6, none⟩ = some (.slice A0_6 l0_6.length c0_6) := (zC a8.out 6).trans rfl
      have hfz17_0 := zB a8.out 0
      have hfz17_1 := zB a8.out 1
      have hfz17_2 := zB a8.out 2
      have hfz17_3 := zB a8.out 3
      have hfz17_4 := zB a8.out 4
      have hfz17_5 := zB a8.out 5
      have hfz17_6 := zB a8.out 6
      go_wp2
      go_meet
      case rel => exact ⟨_, (true), (by first | rfl | (simp; done) | (simp [*]; done)), H', ⟨by have := HJ6.out; first | omega | exact Nat.le_refl _⟩, ⟨uK a8.out⟩, ⟨uC HB.out aa.out⟩⟩
     rw [if_neg c16] at H
     have c16b0 : (a0_0 == 41) = false := beq_eq_false_iff_ne.mpr c16
     have c16b1 : (a0_0 != 41) = true := bne_iff_ne.mpr c16
     by_cases c18 : a0_0 = 43
     ·rw [if_pos c18] at H
      have c18b0 : (a0_0 == 43) = true := beq_iff_eq.mpr c18
      have c18b1 : (a0_0 != 43) = false := bne_eq_false_iff_eq.mpr c18
      clear c18
      have H' := uZ H
      clear H
      have hcz19_0 : wc.cell? ⟨a9, 0, none⟩ = some (.int .i64 a0_0) := (zC a8.out 0).trans rfl
      have hcz19_1 : wc.cell? ⟨a9, 1, none⟩ = some (.int .i64 a0_1) := (zC a8.out 1).trans rfl
      have hcz19_2 : wc.cell? ⟨a9, 2, none⟩ = some (.int .i64 a0_2) := (zC a8.out 2).trans rfl
      have hcz19_3 : wc.cell? ⟨a9, 3, none⟩ = some (.int .i64 a0_3) := (zC a8.out 3).trans rfl
      have hcz19_4 : wc.cell? ⟨a9, 4, none⟩ = some (.int .u32 a0_4) := (zC a8.out 4).trans rfl
      have hcz19_5 : wc.cell? ⟨a9, 5, none⟩ = some (.int .i64 a0_5) := (zC a8.out 5).trans rfl
      have hcz19_6 : wc.cell? ⟨a9, 6, none⟩ = some (.slice A0_6 l0_6.length c0_6) := (zC a8.out 6).trans rfl
      have hfz19_0 := zB a8.out 0
      have hfz19_1 := zB a8.out 1
      have hfz19_2 := zB a8.out 2
      have hfz19_3 := zB a8.out 3
      have hfz19_4 := zB a8.out 4
      have hfz19_5 := zB a8.out 5
      have hfz19_6 := zB a8.out 6
      go_wp2
      go_meet
      case rel => exact ⟨_, (true), (by first | rfl | (simp; done) | (simp [*]; done)), H', ⟨by have := HJ6.out; first | omega | exact Nat.le_refl _⟩, ⟨uK a8.out⟩, ⟨uC HB.out aa.out⟩⟩
     rw [if_neg c18] at H
     have c18b0 : (a0_0 == 43) = false := beq_eq_false_iff_ne.mpr c18
     have c18b1 : (a0_0 != 43) = true := bne_iff_ne.mpr c18
     have H' := uZ H
     clear H
     have hcz20_0 : wc.cell? ⟨a9, 0, none⟩ = some (.int .i64 a0_0) := (zC a8.out 0).trans rfl
     have hcz20_1 : wc.cell? ⟨a9, 1, none⟩ = some (.int .i64 a0_1) := (zC a8.out 1).trans rfl
     have hcz20_2 : wc.cell? ⟨a9, 2, none⟩ = some (.int .i64 a0_2) := (zC a8.out 2).trans rfl
     have hcz20_3 : wc.cell? ⟨a9, 3, none⟩ = some (.int .i64 a0_3) := (zC a8.out 3).trans rfl
     have hcz20_4 : wc.cell? ⟨a9, 4, none⟩ = some (.int .u32 a0_4) := (zC a8.out 4).trans rfl
     have hcz20_5 : wc.cell? ⟨a9, 5, none⟩ = some (.int .i64 a0_5) := (zC a8.out 5).trans rfl
     have hcz20_6 : wc.cell? ⟨a9, 6, none⟩ = some (.slice A0_6 l0_6.length c0_6) := (zC a8.out 6).trans rfl
     have hfz20_0 := zB a8.out 0
     have hfz20_1 := zB a8.out 1
     have hfz20_2 := zB a8.out 2
     have hfz20_3 := zB a8.out 3
     have hfz20_4 := zB a8.out 4
     have hfz20_5 := zB a8.out 5
     have hfz20_6 := zB a8.out 6
     go_wp2
     go_meet
     case rel => exact ⟨_, ((a0_0 == 2)), (by first | rfl | (simp; done) | (simp [*]; done)), H', ⟨by have := HJ6.out; first | omega | exact Nat.le_refl _⟩, ⟨uK a8.out⟩, ⟨uC HB.out aa.out⟩⟩
    rw [if_neg c13] at H
    have c13b0 : (a0_0 == 40) = false := beq_eq_false_iff_ne.mpr c13
    have c13b1 : (a0_0 != 40) = true := bne_iff_ne.mpr c13
    (first | rw [c13b0] | (simp only [i64_w, i32_w]; rw [c13b0]) | skip)
    by_cases c21 : a0_0 = 41
    ·rw [if_pos c21] at H
     have c21b0 : (a0_0 == 41) = true := beq_iff_eq.mpr c21
     have c21b1 : (a0_0 != 41) = false := bne_eq_false_iff_eq.mpr c21
     clear c21
     have H' := uZ H
     clear H
     have hcz22_0 : wc.cell? ⟨a9, 0, none⟩ = some (.int .i64 a0_0) := (zC a8.out 0).trans rfl
     have hcz22_1 : wc.cell? ⟨a9, 1, none⟩ = some (.int .i64 a0_1) := (zC a8.out 1).trans rfl
     have hcz22_2 : wc.cell? ⟨a9, 2, none⟩ = some (.int .i64 a0_2) := (zC a8.out 2).trans rfl
     have hcz22_3 : wc.cell? ⟨a9, 3, none⟩ = some (.int .i64 a0_3) := (zC a8.out 3).trans rfl
     have hcz22_4 : wc.cell? ⟨a9, 4, none⟩ = some (.int .u32 a0_4) := (zC a8.out 4).trans rfl
     have hcz22_5 : wc.cell? ⟨a9, 5, none⟩ = some (.int .i64 a0_5) := (zC a8.out 5).trans rfl
     have hcz22_6 : wc.cell? ⟨a9, 6, none⟩ = some (.slice A0_6 l0_6.length c0_6) := (zC a8.out 6).trans rfl
     have hfz22_0 := zB a8.out 0
     have hfz22_1 := zB a8.out 1
     have hfz22_2 := zB a8.out 2
     have hfz22_3 := zB a8.out 3
     have hfz22_4 := zB a8.out 4
     have hfz22_5 := zB a8.out 5
     have hfz22_6 := zB a8.out 6
     go_wp2
     go_meet
     case rel => exact ⟨_, (true), (by first | rfl | (simp; done) | (simp [*]; done)), H', ⟨by have := HJ6.out; first | omega | exact Nat.le_refl _⟩, ⟨uK a8.out⟩, ⟨uC HB.out aa.out⟩⟩
    rw [if_neg c21] at H
    have c21b0 : (a0_0 == 41) = false := beq_eq_false_iff_ne.mpr c21
    have c21b1 : (a0_0 != 41) = true := bne_iff_ne.mpr c21
    by_cases c23 : a0_0 = 43
    ·rw [if_pos c23] at H
     have c23b0 : (a0_0 == 43) = true := beq_iff_eq.mpr c23
     have c23b1 : (a0_0 != 43) = false := bne_eq_false_iff_eq.mpr c23
     clear c23
     have H' := uZ H
     clear H
     have hcz24_0 : wc.cell? ⟨a9, 0, none⟩ = some (.int .i64 a0_0) := (zC a8.out 0).trans rfl
     have hcz24_1 : wc.cell? ⟨a9, 1, none⟩ = some (.int .i64 a0_1) := (zC a8.out 1).trans rfl
     have hcz24_2 : wc.cell? ⟨a9, 2, none⟩ = some (.int .i64 a0_2) := (zC a8.out 2).trans rfl
     have hcz24_3 : wc.cell? ⟨a9, 3, none⟩ = some (.int .i64 a0_3) := (zC a8.out 3).trans rfl
     have hcz24_4 : wc.cell? ⟨a9, 4, none⟩ = some (.int .u32 a0_4) := (zC a8.out 4).trans rfl
     have hcz24_5 : wc.cell? ⟨a9, 5, none⟩ = some (.int .i64 a0_5) := (zC a8.out 5).trans rfl
     have hcz24_6 : wc.cell? ⟨a9, 6, none⟩ = some (.slice A0_6 l0_6.length c0_6) := (zC a8.out 6).trans rfl
     have hfz24_0 := zB a8.out 0
     have hfz24_1 := zB a8.out 1
     have hfz24_2 := zB a8.out 2
     have hfz24_3 := zB a8.out 3
     have hfz24_4 := zB a8.out 4
     have hfz24_5 := zB a8.out 5
     have hfz24_6 := zB a8.out 6
     go_wp2
     go_meet
     case rel => exact ⟨_, (true), (by first | rfl | (simp; done) | (simp [*]; done)), H', ⟨by have := HJ6.out; first | omega | exact Nat.le_refl _⟩, ⟨uK a8.out⟩, ⟨uC HB.out aa.out⟩⟩
    rw [if_neg c23] at H
    have c23b0 : (a0_0 == 43) = false := beq_eq_false_iff_ne.mpr c23
    have c23b1 : (a0_0 != 43) = true := bne_iff_ne.mpr c23
    have H' := uZ H
    clear H
    have hcz25_0 : wc.cell? ⟨a9, 0, none⟩ = some (.int .i64 a0_0) := (zC a8.out 0).trans rfl
    have hcz25_1 : wc.cell? ⟨a9, 1, none⟩ = some (.int .i64 a0_1) := (zC a8.out 1).trans rfl
    have hcz25_2 : wc.cell? ⟨a9, 2, none⟩ = some (.int .i64 a0_2) := (zC a8.out 2).trans rfl
    have hcz25_3 : wc.cell? ⟨a9, 3, none⟩ = some (.int .i64 a0_3) := (zC a8.out 3).trans rfl
    have hcz25_4 : wc.cell? ⟨a9, 4, none⟩ = some (.int .u32 a0_4) := (zC a8.out 4).trans rfl
    have hcz25_5 : wc.cell? ⟨a9, 5, none⟩ = some (.int .i64 a0_5) := (zC a8.out 5).trans rfl
    have hcz25_6 : wc.cell? ⟨a9, 6, none⟩ = some (.slice A0_6 l0_6.length c0_6) := (zC a8.out 6).trans rfl
    have hfz25_0 := zB a8.out 0
    have hfz25_1 := zB a8.out 1
    have hfz25_2 := zB a8.out 2
    have hfz25_3 := zB a8.out 3
    have hfz25_4 := zB a8.out 4
    have hfz25_5 := zB a8.out 5
    have hfz25_6 := zB a8.out 6
    go_wp2
    go_meet
    case rel => exact ⟨_, ((a0_0 == 2)), (by first | rfl | (simp; done) | (simp [*]; done)), H', ⟨by have := HJ6.out; first | omega | exact Nat.le_refl _⟩, ⟨uK a8.out⟩, ⟨uC HB.out aa.out⟩⟩
   case rest =>
    clear HC12
    try clear c1
    try clear c2
    try clear p2
    try clear c4
    try clear c4b0
    try clear c4b1
    try clear c5
    try clear c10
    try clear c11
    try clear c13
    try clear c13b0
    try clear c13b1
    try clear c14
    try clear c16
    try clear c16b0
    try clear c16b1
    try clear c18
    try clear c18b0
    try clear c18b1
    try clear c21
    try clear c21b0
    try clear c21b1
    try clear c23
    try clear c23b0
    try clear c23b1
    try clear hcz15_0
    try clear hcz15_1
    try clear hcz15_2
    try clear hcz15_3
    try clear hcz15_4
    try clear hcz15_5
    try clear hcz15_6
    try clear hcz17_0
    try clear hcz17_1
    try clear hcz17_2
    try clear hcz17_3
    try clear hcz17_4
    try clear hcz17_5
    try clear hcz17_6
    try clear hcz19_0
    try clear hcz19_1
    try clear hcz19_2
    try clear hcz19_3
    try clear hcz19_4
    try clear hcz19_5
    try clear hcz19_6
    try clear hcz20_0
    try clear hcz20_1
    try clear hcz20_2
    try clear hcz20_3
    try clear hcz20_4
    try clear hcz20_5
    try clear hcz20_6
    try clear hcz22_0
    try clear hcz22_1
    try clear hcz22_2
    try clear hcz22_3
    try clear hcz22_4
    try clear hcz22_5
    try clear hcz22_6
    try clear hcz24_0
    try clear hcz24_1
    try clear hcz24_2
    try clear hcz24_3
    try clear hcz24_4
    try clear hcz24_5
    try clear hcz24_6
    try clear hcz25_0
    try clear hcz25_1
    try clear hcz25_2
    try clear hcz25_3
    try clear hcz25_4
    try clear hcz25_5
    try clear hcz25_6
    try clear hcz6_0
    try clear hcz6_1
    try clear hcz6_2
    try clear hcz6_3
    try clear hcz6_4
    try clear hcz6_5
    try clear hcz6_6
    try clear hcz9_0
    try clear hcz9_1
    try clear hcz9_2
    try clear hcz9_3
    try clear hcz9_4
    try clear hcz9_5
    try clear hcz9_6
    try clear hfz15_0
    try clear hfz15_1
    try clear hfz15_2
    try clear hfz15_3
    try clear hfz15_4
    try clear hfz15_5
    try clear hfz15_6
    try clear hfz17_0
    try clear hfz17_1
    try clear hfz17_2
    try clear hfz17_3
    try clear hfz17_4
    try clear hfz17_5
    try clear hfz17_6
    try clear hfz19_0
    try clear hfz19_1
    try clear hfz19_2
    try clear hfz19_3
    try clear hfz19_4
    try clear hfz19_5
    try clear hfz19_6
    try clear hfz20_0
    try clear hfz20_1
    try clear hfz20_2
    try clear hfz20_3
    try clear hfz20_4
    try clear hfz20_5
    try clear hfz20_6
    try clear hfz22_0
    try clear hfz22_1
    try clear hfz22_2
    try clear hfz22_3
    try clear hfz22_4
    try clear hfz22_5
    try clear hfz22_6
    try clear hfz24_0
    try clear hfz24_1
    try clear hfz24_2
    try clear hfz24_3
    try clear hfz24_4
    try clear hfz24_5
    try clear hfz24_6
    try clear hfz25_0
    try clear hfz25_1
    try clear hfz25_2
    try clear hfz25_3
    try clear hfz25_4
    try clear hfz25_5
    try clear hfz25_6
    try clear hfz6_0
    try clear hfz6_1
    try clear hfz6_2
    try clear hfz6_3
    try clear hfz6_4
    try clear hfz6_5
    try clear hfz6_6
    try clear hfz9_0
    try clear hfz9_1
    try clear hfz9_2
    try clear hfz9_3
    try clear hfz9_4
    try clear hfz9_5
    try clear hfz9_6
    try clear p2
    obtain ⟨kq, x18_11, rfl, HA, HJ11, a8, HB⟩ := hcut
    cases kq with
    | zero => exact absurd HA.out (by simp [switchbackref17_Size.j1])
    | succ kj11 =>
     have H := HA.out
     clear HA
     simp only [switchbackref17_Size.j1] at H
     by_cases c26 : x18_11 = true
     ·subst c26
      have H1 : (some 2) = some r := by rw [if_pos rfl] at H; exact H
      clear H
      have H := H1
      clear H1
      obtain rfl := Option.some.inj H
      go_wp2
      go_ret
      exact ⟨by first | rfl | (simp [errW_none, errW_some] <;> rfl) | (simp [*, errW_none, errW_some] <;> rfl), by repeat (first | (with_reducible first | exact HB.out | apply below_alloc | apply zA | apply below_drew1 | refine below_set ?_ aa.out) | exact HB.out)⟩
     replace c26 := Bool.eq_false_iff.mpr c26
     subst c26
     have H1 : (if a0_0 = 42 then (some (wrap64 (2 + (l0_6.length : Int)))) else (some 1)) = some r := by rw [if_neg (show ¬ (false = true) by decide)] at H; exact H
     clear H
     have H := H1
     clear H1
     by_cases c27 : a0_0 = 42
     ·rw [if_pos c27] at H
      have c27b0 : (a0_0 == 42) = true := beq_iff_eq.mpr c27
      have c27b1 : (a0_0 != 42) = false := bne_eq_false_iff_eq.mpr c27
      clear c27
      obtain rfl := Option.some.inj H
      have hcz28_0 : wc.cell? ⟨a9, 0, none⟩ = some (.int .i64 a0_0) := (zC a8.out 0).trans rfl
      have hcz28_1 : wc.cell? ⟨a9, 1, none⟩ = some (.int .i64 a0_1) := (zC a8.out 1).trans rfl
      have hcz28_2 : wc.cell? ⟨a9, 2, none⟩ = some (.int .i64 a0_2) := (zC a8.out 2).trans rfl
      have hcz28_3 : wc.cell? ⟨a9, 3, none⟩ = some (.int .i64 a0_3) := (zC a8.out 3).trans rfl
      have hcz28_4 : wc.cell? ⟨a9, 4, none⟩ = some (.int .u32 a0_4) := (zC a8.out 4).trans rfl
      have hcz28_5 : wc.cell? ⟨a9, 5, none⟩ = some (.int .i64 a0_5) := (zC a8.out 5).trans rfl
      have hcz28_6 : wc.cell? ⟨a9, 6, none⟩ = some (.slice A0_6 l0_6.length c0_6) := (zC a8.out 6).trans rfl
      have hfz28_0 := zB a8.out 0
      have hfz28_1 := zB a8.out 1
      have hfz28_2 := zB a8.out 2
      have hfz28_3 := zB a8.out 3
      have hfz28_4 := zB a8.out 4
      have hfz28_5 := zB a8.out 5
      have hfz28_6 := zB a8.out 6
      go_wp2
      go_ret
      exact ⟨by first | rfl | (simp [errW_none, errW_some] <;> rfl) | (simp [*, errW_none, errW_some] <;> rfl), by repeat (first | (with_reducible first | exact HB.out | apply below_alloc | apply zA | apply below_drew1 | refine below_set ?_ aa.out) | exact HB.out)⟩
     rw [if_neg c27] at H
     have c27b0 : (a0_0 == 42) = false := beq_eq_false_iff_ne.mpr c27
     have c27b1 : (a0_0 != 42) = true := bne_iff_ne.mpr c27
     obtain rfl := Option.some.inj H
     have hcz29_0 : wc.cell? ⟨a9, 0, none⟩ = some (.int .i64 a0_0) := (zC a8.out 0).trans rfl
     have hcz29_1 : wc.cell? ⟨a9, 1, none⟩ = some (.int .i64 a0_1) := (zC a8.out 1).trans rfl
     have hcz29_2 : wc.cell? ⟨a9, 2, none⟩ = some (.int .i64 a0_2) := (zC a8.out 2).trans rfl
     have hcz29_3 : wc.cell? ⟨a9, 3, none⟩ = some (.int .i64 a0_3) := (zC a8.out 3).trans rfl
     have hcz29_4 : wc.cell? ⟨a9, 4, none⟩ = some (.int .u32 a0_4) := (zC a8.out 4).trans rfl
     have hcz29_5 : wc.cell? ⟨a9, 5, none⟩ = some (.int .i64 a0_5) := (zC a8.out 5).trans rfl
     have hcz29_6 : wc.cell? ⟨a9, 6, none⟩ = some (.slice A0_6 l0_6.length c0_6) := (zC a8.out 6).trans rfl
     have hfz29_0 := zB a8.out 0
     have hfz29_1 := zB a8.out 1
     have hfz29_2 := zB a8.out 2
     have hfz29_3 := zB a8.out 3
     have hfz29_4 := zB a8.out 4
     have hfz29_5 := zB a8.out 5
     have hfz29_6 := zB a8.out 6
     go_wp2
     go_ret
     exact ⟨by first | rfl | (simp [errW_none, errW_some] <;> rfl) | (simp [*, errW_none, errW_some] <;> rfl), by repeat (first | (with_reducible first | exact HB.out | apply below_alloc | apply zA | apply below_drew1 | refine below_set ?_ aa.out) | exact HB.out)⟩

end Go.Proofs.YtamimnaafiphcaaDoor.PR1D

-- Written by gp.py for this claim.
namespace Go.Proofs.YtamimnaafiphcaaDoor.PR1D
open Go.RowKit Go.Proofs.YtamimnaafiphcaaDoorW.PrintWords Go.Proofs.YtamimnaafiphcaaDoorW.PrintLast Go.Proofs.YtamimnaafiphcaaDoorW.PrintMore
attribute [local go_sem] max2_int min2_int max_two min_two max_three min_three max_four min_four   -- for this text's walks alone
set_option linter.unusedVariables false
set_option linter.unusedSimpArgs false

namespace q_switchbackref17_Places
theorem uZ {p : Prop} (h : p) : Aside0 p := ⟨h⟩
theorem uR {p q : Prop} (h : p) (g : p → q := by intro h; (with_reducible repeat (first | apply Kd.R_alloc | apply Kd.R_drewN | apply Kd.R_drew)); exact h) : q := g h
theorem uB {p q : Prop} (h : p) (g : p → q := by intro h; repeat (first | (with_reducible first | exact h | apply below_alloc | apply pw_below_drewN | apply below_drew1) | exact h)) : q := g h
theorem uA {p : Prop} [Decidable p] (h : decide p = true := by first | (with_reducible assumption) | assumption) : p := of_decide_eq_true h
theorem zA : type_of% @Kd.R_alloc := @Kd.R_alloc
theorem zB : type_of% @Kd.R_drewN := @Kd.R_drewN
theorem zC : type_of% @Kd.R_drew := @Kd.R_drew
theorem zD : type_of% @World.block_lt_of_cell? := @World.block_lt_of_cell?
theorem zE : type_of% @List.setIfInBounds_toArray := @List.setIfInBounds_toArray
theorem zF : type_of% @List.set_cons_zero := @List.set_cons_zero
theorem zG : type_of% @List.set_cons_succ := @List.set_cons_succ
end q_switchbackref17_Places
open q_switchbackref17_Places

/-! ### switchbackref17_Places: function 30 -/
mutual
def switchbackref17_Places.l0 : Nat → List (S40) → List Bool → List Int → Int → Option (List Int × Int × List Int)
  | 0, _, _, _, _ => none
  | k + 1, x0, x1, x7, x8 => if x8 ≤ 100000 then (if 0 ≤ x8 then (if x8 < (x7.length : Int) then (switchbackref17_Places.l0 k x0 x1 (x7.set (x8 : Int).toNat (-1)) (wrap64 (x8 + 1))) else (none)) else (none)) else (switchbackref17_Places.l1 k x0 x1 x7 ([] : List Int) 0 0)
def switchbackref17_Places.l1 : Nat → List (S40) → List Bool → List Int → List Int → Int → Int → Option (List Int × Int × List Int)
  | 0, _, _, _, _, _, _ => none
  | k + 1, x0, x1, x7, x9, x10, x11 => if x11 < (x0.length : Int) then (if x9.length < 17592186044416 then ((some (x9 ++ [x10] : List Int)).bind fun y157 => (if 0 ≤ x11 then (if ((rd_T40 x0 x11).f0) = 0 then (if 0 ≤ ((rd_T40 x0 x11).f5) then (if ((rd_T40 x0 x11).f5) < (x7.length : Int) then (switchbackref17_Places.j2 k x0 x1 (x7.set (((rd_T40 x0 x11).f5) : Int).toNat x10) y157 x10 x11) else (none)) else (none)) else (switchbackref17_Places.j2 k x0 x1 x7 y157 x10 x11)) else (none))) else (none)) else (some (x9, x10, x7))
def switchbackref17_Places.j2 : Nat → List (S40) → List Bool → List Int → List Int → Int → Int → Option (List Int × Int × List Int)
  | 0, _, _, _, _, _, _ => none
  | k + 1, x0, x1, x7, x9, x10, x11 => if 0 ≤ x11 then (if x11 < (x0.length : Int) then (if x11 < (x1.length : Int) then ((switchbackref17_Size.f k ((rd_T40 x0 x11).f0) ((rd_T40 x0 x11).f1) ((rd_T40 x0 x11).f2) ((rd_T40 x0 x11).f3) ((rd_T40 x0 x11).f4) ((rd_T40 x0 x11).f5) ((rd_T40 x0 x11).f6) (rdOf false x1 x11)).bind fun t165 => (switchbackref17_Places.l1 k x0 x1 x7 x9 (wrap64 (x10 + t165)) (wrap64 (x11 + 1)))) else (none)) else (none)) else (none)
end
def switchbackref17_Places.f (k : Nat) (l0 : List (S40)) (l1 : List Bool) : Option (List Int × Int × List Int) := if 100001 ≤ 35184372088832 then (switchbackref17_Places.l0 k l0 l1 (List.replicate 100001 0) 0) else (none)
theorem switchbackref17_Places.mono_l : ∀ k, (∀ y0 y1 y2 y3, LeO (switchbackref17_Places.l0 k y0 y1 y2 y3) (switchbackref17_Places.l0 (k + 1) y0 y1 y2 y3)) ∧ (∀ y0 y1 y2 y3 y4 y5, LeO (switchbackref17_Places.l1 k y0 y1 y2 y3 y4 y5) (switchbackref17_Places.l1 (k + 1) y0 y1 y2 y3 y4 y5)) ∧ (∀ y0 y1 y2 y3 y4 y5, LeO (switchbackref17_Places.j2 k y0 y1 y2 y3 y4 y5) (switchbackref17_Places.j2 (k + 1) y0 y1 y2 y3 y4 y5))
  | 0 => ⟨fun _ _ _ _ r h => by simp [switchbackref17_Places.l0] at h, fun _ _ _ _ _ _ r h => by simp [switchbackref17_Places.l1] at h, fun _ _ _ _ _ _ r h => by simp [switchbackref17_Places.j2] at h⟩
  | k + 1 => by
    obtain ⟨ih0, ih1, ih2⟩ := switchbackref17_Places.mono_l k
    refine ⟨?_, ?_, ?_⟩
    · intro y0 y1 y2 y3
      unfold switchbackref17_Places.l0
      repeat' first
      | (with_reducible exact ih0 _ _ _ _)
      | (with_reducible exact ih1 _ _ _ _ _ _)
      | (with_reducible exact ih2 _ _ _ _ _ _)
      | (with_reducible exact switchbackref17_Size.mono _ _ _ _ _ _ _ _ _)
      | (with_reducible exact LeO.refl _)
      | (with_reducible exact LeO.none _)
      | (with_reducible refine LeO.ite ?_ ?_)
      | (with_reducible refine LeO.bind ?_ (fun _ => ?_))
      | exact ih0 _ _ _ _
      | exact ih1 _ _ _ _ _ _
      | exact ih2 _ _ _ _ _ _
      | exact switchbackref17_Size.mono _ _ _ _ _ _ _ _ _
      | exact LeO.none _
      | refine LeO.ite ?_ ?_
      | refine LeO.bind ?_ (fun _ => ?_)
    · intro y0 y1 y2 y3 y4 y5
      unfold switchbackref17_Places.l1
      repeat' first
      | (with_reducible exact ih0 _ _ _ _)
      | (with_reducible exact ih1 _ _ _ _ _ _)
      | (with_reducible exact ih2 _ _ _ _ _ _)
      | (with_reducible exact switchbackref17_Size.mono _ _ _ _ _ _ _ _ _)
      | (with_reducible exact LeO.refl _)
      | (with_reducible exact LeO.none _)
      | (with_reducible refine LeO.ite ?_ ?_)
      | (with_reducible refine LeO.bind ?_ (fun _ => ?_))
      | exact ih0 _ _ _ _
      | exact ih1 _ _ _ _ _ _
      | exact ih2 _ _ _ _ _ _
      | exact switchbackref17_Size.mono _ _ _ _ _ _ _ _ _
      | exact LeO.none _
      | refine LeO.ite ?_ ?_
      | refine LeO.bind ?_ (fun _ => ?_)
    · intro y0 y1 y2 y3 y4 y5
      unfold switchbackref17_Places.j2
      repeat' first
      | (with_reducible exact ih0 _ _ _ _)
      | (with_reducible exact ih1 _ _ _ _ _ _)
      | (with_reducible exact ih2 _ _ _ _ _ _)
      | (with_reducible exact switchbackref17_Size.mono _ _ _ _ _ _ _ _ _)
      | (with_reducible exact LeO.refl _)
      | (with_reducible exact LeO.none _)
      | (with_reducible refine LeO.ite ?_ ?_)
      | (with_reducible refine LeO.bind ?_ (fun _ => ?_))
      | exact ih0 _ _ _ _
      | exact ih1 _ _ _ _ _ _
      | exact ih2 _ _ _ _ _ _
      | exact switchbackref17_Size.mono _ _ _ _ _ _ _ _ _
      | exact LeO.none _
      | refine LeO.ite ?_ ?_
      | refine LeO.bind ?_ (fun _ => ?_)
theorem switchbackref17_Places.mono : ∀ a0 a1 k, LeO (switchbackref17_Places.f k a0 a1) (switchbackref17_Places.f (k + 1) a0 a1) := by
  intro a0 a1 k
  obtain ⟨ih0, ih1, ih2⟩ := switchbackref17_Places.mono_l k
  unfold switchbackref17_Places.f
  repeat' first
      | (with_reducible exact ih0 _ _ _ _)
      | (with_reducible exact ih1 _ _ _ _ _ _)
      | (with_reducible exact ih2 _ _ _ _ _ _)
      | (with_reducible exact switchbackref17_Size.mono _ _ _ _ _ _ _ _ _)
      | (with_reducible exact LeO.refl _)
      | (with_reducible exact LeO.none _)
      | (with_reducible refine LeO.ite ?_ ?_)
      | (with_reducible refine LeO.bind ?_ (fun _ => ?_))
      | exact ih0 _ _ _ _
      | exact ih1 _ _ _ _ _ _
      | exact ih2 _ _ _ _ _ _
      | exact switchbackref17_Size.mono _ _ _ _ _ _ _ _ _
      | exact LeO.none _
      | refine LeO.ite ?_ ?_
      | refine LeO.bind ?_ (fun _ => ?_)
def switchbackref17_Places.T14 : Bool × List (List Nat × List Nat) := (true, [([], []), ([], []), ([], []), ([1, 2], [1, 2]), ([3], [3]), ([], []), ([], []), ([5, 6], [5, 6]), ([7], [7]), ([4, 8], [4, 8]), ([0, 9], [0, 9]), ([10, 9, 0, 1, 2, 3, 4, 5, 6, 7, 8, 9, 10], [0, 10])])
def switchbackref17_Places.B14 : List Nat := [0, 0, 0, 6, 14, 0, 0, 96, 224, 510, 1023, 2047]
theorem switchbackref17_Places.tab14 : rtab .any (opsOf Tryd.f30 14) = switchbackref17_Places.T14 := by kernel_rfl
theorem switchbackref17_Places.bits14 : waitsOk switchbackref17_Places.T14.2 switchbackref17_Places.B14 = true := by kernel_rfl
set_option maxHeartbeats 8000000 in
set_option maxRecDepth 100000 in
theorem switchbackref17_Places.calls (k : Nat) (A0 : Option Addr) (c0 : Nat) (l0 : List (S40)) (A1 : Option Addr) (c1 : Nat) (l1 : List Bool) (r1 : List Int) (r2 : Int) (r3 : List Int) (w : World) (hr0 : Kd.C k40 w A0 l0.length l0) (hc0 : l0.length ≤ c0) (hr1 : Kd.C Kd.bool w A1 l1.length l1) (hc1 : l1.length ≤ c1) (h : switchbackref17_Places.f k l0 l1 = some (r1, r2, r3)) :
    Calls Tryd.prog 30 #[.slice A0 l0.length c0, .slice A1 l1.length c1] w fun e w' => ∃ v0_ v2_ : Value, e = .returned (.tuple #[v0_, .int .i64 r2, v2_]) ∧ Kd.R (Kd.int .i64) 3 w' w.heap.size (fun k_ => some k_ ≠ (v2_ : Value).ownBlock) v0_ r1 ∧ Kd.R (Kd.int .i64) 3 w' w.heap.size (fun k_ => some k_ ≠ (v0_ : Value).ownBlock) v2_ r3 ∧ Below w.heap.size w w' := by
 have hu40 := Tryd.underlying40
 have HR0 := uZ hr0
 have HC0 := uZ hc0
 clear hr0 hc0
 have HR1 := uZ hr1
 have HC1 := uZ hc1
 clear hr1 hc1
 have HB := uZ (Below.refl w.heap.size w)
 have H : (if 100001 ≤ 35184372088832 then (switchbackref17_Places.l0 k l0 l1 (List.replicate 100001 0) 0) else (none)) = some (r1, r2, r3) := h
 clear h
 by_cases c3 : 100001 ≤ 35184372088832
 ·rw [if_pos c3] at H
  have c3b0 := eq_true c3
  have c3b1 : decide (100001 ≤ 35184372088832) = true := decide_eq_true c3
  clear c3
  obtain ⟨y153, hy153⟩ : ∃ y_ : List Int, y_ = (List.replicate 100001 0) := ⟨_, rfl⟩
  replace H : (switchbackref17_Places.l0 k l0 l1 y153 0) = some (r1, r2, r3) := by first | (rw [hy153]; with_reducible exact H) | (have H2_ := (Option.bind_some _ _).symm.trans H; rw [hy153]; with_reducible exact H2_) | (have H2_ := (Option.bind_some _ _).symm.trans H; with_reducible exact H2_) | with_reducible exact H | (rw [hy153]; exact H) | exact H
  have Ny153 := uZ hy153
  clear hy153
  have H' := uZ H
  clear H
  go_enter Tryd.func30, Tryd.ntmps30
  go_wp2_with (first | ((with_reducible refine gate_dst (N := 12) rfl ?_); refine Kd.R_make (Kd.int .i64) _ 3 rfl (N := 12) rfl 25 _ _ rfl 100001 rfl rfl Tryd.underlying25 (.int .i64 0) 8 info3 rfl (by decide) (by omega) 0 (ok := fun _ => True) (okp := fun _ => True) rfl (fun _ hk => hk) trivial (by omega) (by omega) (Below.refl _ _) (Nat.le_refl _) ?_; intro v154 w4 ho5 hb hg_ hnew_; clear hg_ hnew_; (first | rw [← Ny153.out] at ho5 | (simp only [Int.reduceToNat] at ho5; rw [← Ny153.out] at ho5)); have n0_ := uZ (Kd.R_lower ho5 (below_size (uB HB.out))); have n1_ := uZ (below_step (uB HB.out) hb); clear HB; have HO155 := n0_; have HB := n1_; clear n0_ n1_; clear hb ho5))
  go_loopg [8] k (fun kq v8 w' => ∃ (x7_1 : List Int) (a6 : Int), v8 = .int .i64 a6 ∧ Aside0 (switchbackref17_Places.l0 kq l0 l1 x7_1 a6 = some (r1, r2, r3)) ∧ Aside0 (kq ≤ k) ∧ Aside0 (Kd.R (Kd.int .i64) 3 w' w.heap.size (fun _ => True) v154 x7_1) ∧ Aside0 (Below w.heap.size w w'))
  case atStart => exact ⟨(y153), (0), (by first | rfl | (simp; done) | (simp [*]; done)), H', ⟨Nat.le_refl _⟩, ⟨uR HO155.out⟩, ⟨uB HB.out⟩⟩
  case round =>
   clear H'
   try clear c1
   try clear p2
   try clear c3
   try clear c3b0
   try clear c3b1
   obtain ⟨x7_1, a6, rfl, HA, HK1, a3, HB⟩ := hrel
   cases gk with
   | zero => exact absurd HA.out (by simp [switchbackref17_Places.l0])
   | succ k1 =>
    have H := HA.out
    clear HA
    simp only [switchbackref17_Places.l0] at H
    by_cases c6 : a6 ≤ 100000
    ·rw [if_pos c6] at H
     have c6b0 : decide (a6 ≤ 100000) = true := decide_eq_true c6
     clear c6
     by_cases c7 : 0 ≤ a6
     ·rw [if_pos c7] at H
      have c7b0 : decide (0 ≤ a6) = true := decide_eq_true c7
      clear c7
      by_cases c8 : a6 < (x7_1.length : Int)
      ·rw [if_pos c8] at H
       have c8b0 : decide (a6 < (x7_1.length : Int)) = true := decide_eq_true c8
       clear c8
       obtain ⟨y156, hy156⟩ : ∃ y_ : List Int, y_ = (x7_1.set (a6 : Int).toNat (-1)) := ⟨_, rfl⟩
       replace H : (switchbackref17_Places.l0 k1 l0 l1 y156 (wrap64 (a6 + 1))) = some (r1, r2, r3) := by first | (rw [hy156]; with_reducible exact H) | (have H2_ := (Option.bind_some _ _).symm.trans H; rw [hy156]; with_reducible exact H2_) | (have H2_ := (Option.bind_some _ _).symm.trans H; with_reducible exact H2_) | with_reducible exact H | (rw [hy156]; exact H) | exact H
       have Ny156 := uZ hy156
       clear hy156
       have H' := uZ H
       clear H
       have p9 : 0 ≤ (a6 : Int) := uA
       have q9 : (a6 : Int) < ((x7_1.length : Int) : Int) := uA
       obtain ⟨go9, co9, eo9, gb9, gl9, cl9, HG9⟩ := Kd.R_form a3.out (by omega)
       (first | cases eo9 | (injection eo9 with ea_ en_ ec_; (first | subst ea_ | (injection ea_ with ea_; subst ea_)); subst ec_; clear en_))
       have GB9 := uZ gb9
       have GG9 := uZ HG9
       clear gb9 gl9 HG9
       obtain ⟨hx9_0, hf9_0⟩ := Kd.R_celln 0 a3.out (a6 : Int) p9 q9
       replace p9 := eq_true p9
       replace q9 := eq_true q9
       have HP10 := Kd.R_putg a3.out (a6 : Int) (-1)
       go_wp2_with (first | ((with_reducible refine gate_store (t := 3) (p := 19) rfl ?_); refine store_event (t := 3) (p := 19) (v := ?vo_w11) (w1 := (wr.setCell ⟨go9, (a6 : Int).toNat, none⟩ (.int .i64 (-1)))) ?hg ?ho ?hn ?hr ?_; (case ho => rfl); (case hg => rfl); (case hn => rfl); (case hr => first | (go_simp; done) | (go_simp; rfl)); intro w11 hw; have hg : wr.grownBy w11 (some go9) := (by rw [hw]; exact HP10.2); have hp_ : Kd.R (Kd.int .i64) 3 w11 w.heap.size (fun _ => True) (.slice (some ⟨go9, 0, none⟩) x7_1.length co9) y156 := (by rw [hw, Ny156.out]; exact HP10.1); clear HP10; have n0_ := uZ (hp_); have n1_ := uZ ((by rw [hw]; exact below_set (HB.out) GB9.out : Below w.heap.size w w11)); clear a3; clear HB; have a3 := n0_; have HB := n1_; clear n0_ n1_; clear hg hw hp_))
       go_roundg k1
       case measure => have := HK1.out; omega
       case rel => exact ⟨(y156), (wrap64 (a6 + 1)), (by first | rfl | (simp; done) | (simp [*]; done)), H', ⟨by have := HK1.out; omega⟩, ⟨uR a3.out⟩, ⟨uB HB.out⟩⟩
      rw [if_neg c8] at H
      exact absurd H (by simp)
     rw [if_neg c7] at H
     exact absurd H (by simp)
    rw [if_neg c6] at H
    have c6b0 : decide (a6 ≤ 100000) = false := decide_eq_false c6
    clear c6
    have H' := uZ H
    clear H
    go_wp2
    go_loopg [9, 10, 11] k1 (fun kq v9 v10 v11 w' => ∃ (a7 : List Int) (x9_2 : List Int) (a4 : Int) (a2 : Int), v10 = .int .i64 a4 ∧ v11 = .int .i64 a2 ∧ Aside0 (switchbackref17_Places.l1 kq l0 l1 a7 x9_2 a4 a2 = some (r1, r2, r3)) ∧ Aside0 (kq ≤ k1) ∧ Aside0 (Kd.R (Kd.int .i64) 3 w' w.heap.size (fun k_ => some k_ ≠ (v9 : Value).ownBlock) v154 a7) ∧ Aside0 (Kd.R (Kd.int .i64) 3 w' w.heap.size (fun k_ => some k_ ≠ (v154 : Value).ownBlock) v9 x9_2) ∧ Aside0 (Below w.heap.size w w'))
    case atStart => exact ⟨(x7_1), (([] : List Int)), (0), (0), (by first | rfl | (simp; done) | (simp [*]; done)), (by first | rfl | (simp; done) | (simp [*]; done)), H', ⟨Nat.le_refl _⟩, ⟨by (with_reducible repeat (first | apply zA | apply zB | apply zC)); exact Kd.R_mono a3.out (fun _ hk => (by simp [Value.ownBlock]))⟩, ⟨by first | exact Kd.R_nil _ _ _ _ _ | exact Kd.N_nil _ _ _ _ _ | exact Kd.V_nil _ _ _ _ _ | exact Kd.Q_nil _ _ _ _ _ | exact Kd.S_nil _ _ _ _ _⟩, ⟨uB HB.out⟩⟩
    case round =>
     clear H'
     try clear c1
     try clear p2
     try clear c3
     try clear c3b0
     try clear c3b1
     try clear c6
     try clear c6b0
     try clear p6
     try clear c7
     try clear c7b0
     try clear c8
     try clear c8b0
     try clear p9
     try clear q9
     try clear hx9
     try clear hf9
     try clear hx9_0
     try clear p2
     try clear p9
     try clear q9
     obtain ⟨a7, x9_2, a4, a2, rfl, rfl, HA, HK2, a3, HO_9, HB⟩ := hrel
     cases gk with
     | zero => exact absurd HA.out (by simp [switchbackref17_Places.l1])
     | succ k2 =>
      have H := HA.out
      clear HA
      simp only [switchbackref17_Places.l1] at H
      by_cases c12 : a2 < (l0.length : Int)
      ·rw [if_pos c12] at H
       have c12b0 : decide (a2 < (l0.length : Int)) = true := decide_eq_true c12
       clear c12
       by_cases c13 : x9_2.length < 17592186044416
       ·rw [if_pos c13] at H
        have LMc13 := uZ c13
        clear c13
        obtain ⟨y157, hy157⟩ : ∃ y_ : List Int, y_ = (x9_2 ++ [a4]) := ⟨_, rfl⟩
        replace H : (if 0 ≤ a2 then (if ((rd_T40 l0 a2).f0) = 0 then (if 0 ≤ ((rd_T40 l0 a2).f5) then (if ((rd_T40 l0 a2).f5) < (a7.length : Int) then (switchbackref17_Places.j2 k2 l0 l1 (a7.set (((rd_T40 l0 a2).f5) : Int).toNat a4) y157 a4 a2) else (none)) else (none)) else (switchbackref17_Places.j2 k2 l0 l1 a7 y157 a4 a2)) else (none)) = some (r1, r2, r3) := by first | (rw [hy157]; with_reducible exact H) | (have H2_ := (Option.bind_some _ _).symm.trans H; rw [hy157]; with_reducible exact H2_) | (have H2_ := (Option.bind_some _ _).symm.trans H; with_reducible exact H2_) | with_reducible exact H | (rw [hy157]; exact H) | exact H
        have Ny157 := uZ hy157
        clear hy157
        by_cases c14 : 0 ≤ a2
        ·rw [if_pos c14] at H
         have c14b0 : decide (0 ≤ a2) = true := decide_eq_true c14
         clear c14
         have HC15 := uZ H
         clear H
         go_upto_if 35 with (first | ((with_reducible refine gate_builtin (b := .append) (xs := #[.tmp 26, .tmp 28]) rfl ?_); at_builtin; refine Kd.R_append (Kd.int .i64) (w0 := w) w.heap.size rfl (.tmp 26) (.tmp 28) 25 3 (.int .i64 0) 8 rfl Tryd.underlying25 info3 rfl (by decide) (by omega) u9 x9_2 a4 [.int .i64 a4] (fun k_ => some k_ ≠ (v154 : Value).ownBlock) (fun _ => False) rfl rfl ?aP (fun _ hk => hk.elim) ?aF ?aO ?aB ?aS ?aL ?_; (case aP => exact rfl); (case aB => exact (uB HB.out)); (case aF => exact (fun k_ hk => Kd.fresh' (Kd.R_lt (uR a3.out)) k_ hk)); (case aO => exact (uR HO_9.out)); (case aS => exact (below_size (uB HB.out))); (case aL => have := LMc13.out; omega); intro v158 w16 ho hb hg hat; rw [← Ny157.out] at ho; have n0_ := uZ (Kd.R_after (ok := (fun _ => True)) (by (with_reducible repeat (first | apply zA | apply zB | apply zC)); exact Kd.R_mono a3.out (fun _ hk => ⟨trivial, hk⟩)) hg hat); have n1_ := uZ (hb); have n2_ := uZ (ho); clear a3; clear HB; clear HO_9; have a3 := n0_; have HB := n1_; have HO159 := n2_; clear n0_ n1_ n2_; clear ho hb hg hat; have p160 : 0 ≤ (a2 : Int) := uA; have q160 : a2 < (l0.length : Int) := uA; obtain ⟨a5, A160_6, c160_6, e160, hx160_0, hx160_1, hx160_2, hx160_3, hx160_4, hx160_5, hx160_6, hl160_6, hi160_6⟩ := at_T40 HR0.out a2 p160 q160; cases e160; replace hx160_0 := (HB.out.cell (zD w _ hx160_0)).trans hx160_0; replace hx160_1 := (HB.out.cell (zD w _ hx160_1)).trans hx160_1; replace hx160_2 := (HB.out.cell (zD w _ hx160_2)).trans hx160_2; replace hx160_3 := (HB.out.cell (zD w _ hx160_3)).trans hx160_3; replace hx160_4 := (HB.out.cell (zD w _ hx160_4)).trans hx160_4; replace hx160_5 := (HB.out.cell (zD w _ hx160_5)).trans hx160_5; replace hx160_6 := (HB.out.cell (zD w _ hx160_6)).trans hx160_6; have HR160_6 := uZ hi160_6; have HC160_6 := uZ hl160_6; clear hi160_6 hl160_6; replace p160 := eq_true p160; replace q160 := eq_true q160))
         (try simp only [Act.put, zE, zF, zG])
         go_cut [] (fun wc => ∃ (kq : Nat) (x7_14 : List Int), Aside0 (switchbackref17_Places.j2 kq l0 l1 x7_14 y157 a4 a2 = some (r1, r2, r3)) ∧ Aside0 (kq ≤ k2) ∧ Aside0 (Kd.R (Kd.int .i64) 3 wc w.heap.size (fun k_ => some k_ ≠ (v158 : Value).ownBlock) v154 x7_14) ∧ Aside0 (Kd.R (Kd.int .i64) 3 wc w.heap.size (fun k_ => some k_ ≠ (v154 : Value).ownBlock) v158 y157) ∧ Aside0 (Below w.heap.size w wc))
         case first =>
          have H := HC15.out
          clear HC15
          by_cases c17 : ((rd_T40 l0 a2).f0) = 0
          ·rw [if_pos c17] at H
           have c17b0 : (((rd_T40 l0 a2).f0) == 0) = true := beq_iff_eq.mpr c17
           have c17b1 : (((rd_T40 l0 a2).f0) != 0) = false := bne_eq_false_iff_eq.mpr c17
           clear c17
           (first | rw [c17b0] | (simp only [i64_w, i32_w]; rw [c17b0]) | skip)
           by_cases c18 : 0 ≤ ((rd_T40 l0 a2).f5)
           ·rw [if_pos c18] at H
            have c18b0 : decide (0 ≤ ((rd_T40 l0 a2).f5)) = true := decide_eq_true c18
            clear c18
            by_cases c19 : ((rd_T40 l0 a2).f5) < (a7.length : Int)
            ·rw [if_pos c19] at H
             have c19b0 : decide (((rd_T40 l0 a2).f5) < (a7.length : Int)) = true := decide_eq_true c19
             clear c19
             obtain ⟨y162, hy162⟩ : ∃ y_ : List Int, y_ = (a7.set (((rd_T40 l0 a2).f5) : Int).toNat a4) := ⟨_, rfl⟩
             replace H : (switchbackref17_Places.j2 k2 l0 l1 y162 y157 a4 a2) = some (r1, r2, r3) := by first | (rw [hy162]; with_reducible exact H) | (have H2_ := (Option.bind_some _ _).symm.trans H; rw [hy162]; with_reducible exact H2_) | (have H2_ := (Option.bind_some _ _).symm.trans H; with_reducible exact H2_) | with_reducible exact H | (rw [hy162]; exact H) | exact H
             have Ny162 := uZ hy162
             clear hy162
             have H' := uZ H
             clear H
             have p161 : 0 ≤ (a2 : Int) := uA
             have q161 : a2 < (l0.length : Int) := uA
             obtain ⟨ad161, A161_6, c161_6, e161, hx161_0, hx161_1, hx161_2, hx161_3, hx161_4, hx161_5, hx161_6, hl161_6, hi161_6⟩ := at_T40 HR0.out a2 p161 q161
             obtain rfl : a5 = ad161 := (by injection e161)
             replace hx161_0 := (HB.out.cell (zD w _ hx161_0)).trans hx161_0
             replace hx161_1 := (HB.out.cell (zD w _ hx161_1)).trans hx161_1
             replace hx161_2 := (HB.out.cell (zD w _ hx161_2)).trans hx161_2
             replace hx161_3 := (HB.out.cell (zD w _ hx161_3)).trans hx161_3
             replace hx161_4 := (HB.out.cell (zD w _ hx161_4)).trans hx161_4
             replace hx161_5 := (HB.out.cell (zD w _ hx161_5)).trans hx161_5
             replace hx161_6 := (HB.out.cell (zD w _ hx161_6)).trans hx161_6
             have HR161_6 := uZ hi161_6
             have HC161_6 := uZ hl161_6
             clear hi161_6 hl161_6
             replace p161 := eq_true p161
             replace q161 := eq_true q161
             have p20 : 0 ≤ (((rd_T40 l0 a2).f5) : Int) := uA
             have q20 : (((rd_T40 l0 a2).f5) : Int) < ((a7.length : Int) : Int) := uA
             obtain ⟨go20, co20, eo20, gb20, gl20, cl20, HG20⟩ := Kd.R_form a3.out (by omega)
             (first | cases eo20 | (injection eo20 with ea_ en_ ec_; (first | subst ea_ | (injection ea_ with ea_; subst ea_)); subst ec_; clear en_))
             have GB20 := uZ gb20
             have GG20 := uZ HG20
             clear gb20 gl20 HG20
             obtain ⟨hx20_0, hf20_0⟩ := Kd.R_celln 0 a3.out (((rd_T40 l0 a2).f5) : Int) p20 q20
             replace p20 := eq_true p20
             replace q20 := eq_true q20
             have n_ := uZ (Kd.R_mono (ok' := (fun k_ => some k_ ≠ (v158 : Value).ownBlock)) a3.out (fun k_ hk => hk.2))
             clear a3
             have a3 := n_
             clear n_
             have HP21 := Kd.R_putg a3.out (((rd_T40 l0 a2).f5) : Int) a4
             go_wp2_with (first | ((with_reducible refine gate_store (t := 3) (p := 43) rfl ?_); refine store_event (t := 3) (p := 43) (v := ?vo_w22) (w1 := (w16.setCell ⟨go20, (((rd_T40 l0 a2).f5) : Int).toNat, none⟩ (.int .i64 a4))) ?hg ?ho ?hn ?hr ?_; (case ho => rfl); (case hg => rfl); (case hn => rfl); (case hr => first | (go_simp; done) | (go_simp; rfl)); intro w22 hw; have hg : w16.grownBy w22 (some go20) := (by rw [hw]; exact HP21.2); have hp_ : Kd.R (Kd.int .i64) 3 w22 w.heap.size (fun k_ => some k_ ≠ (v158 : Value).ownBlock) (.slice (some ⟨go20, 0, none⟩) a7.length co20) y162 := (by rw [hw, Ny162.out]; exact HP21.1); clear HP21; have n0_ := uZ (hp_); have n1_ := uZ (Kd.R_after (v := (.slice (some ⟨go20, 0, none⟩) a7.length co20)) (v1 := (.slice (some ⟨go20, 0, none⟩) a7.length co20)) (ok := (fun _ => True)) (by (with_reducible repeat (first | apply zA | apply zB | apply zC)); exact Kd.R_mono HO159.out (fun _ hk => ⟨trivial, hk⟩)) hg (.inl rfl)); have n2_ := uZ ((by rw [hw]; exact below_set (HB.out) GB20.out : Below w.heap.size w w22)); clear a3; clear HO159; clear HB; have a3 := n0_; have HO159 := n1_; have HB := n2_; clear n0_ n1_ n2_; clear hg hw hp_))
             go_meet
             case rel => exact ⟨_, (y162), H', ⟨by have := HK1.out; have := HK2.out; first | omega | exact Nat.le_refl _⟩, ⟨uR a3.out⟩, ⟨by (with_reducible repeat (first | apply zA | apply zB | apply zC)); exact Kd.R_mono HO159.out (fun _ hk => hk.2)⟩, ⟨uB HB.out⟩⟩
            rw [if_neg c19] at H
            exact absurd H (by simp)
           rw [if_neg c18] at H
           exact absurd H (by simp)
          rw [if_neg c17] at H
          have c17b0 : (((rd_T40 l0 a2).f0) == 0) = false := beq_eq_false_iff_ne.mpr c17
          have c17b1 : (((rd_T40 l0 a2).f0) != 0) = true := bne_iff_ne.mpr c17
          (first | rw [c17b0] | (simp only [i64_w, i32_w]; rw [c17b0]) | skip)
          have H' := uZ H
          clear H
          go_wp2
          go_meet
          case rel => exact ⟨_, (a7), H', ⟨by have := HK1.out; have := HK2.out; first | omega | exact Nat.le_refl _⟩, ⟨by (with_reducible repeat (first | apply zA | apply zB | apply zC)); exact Kd.R_mono a3.out (fun _ hk => hk.2)⟩, ⟨uR HO159.out⟩, ⟨uB HB.out⟩⟩
         case rest =>
          clear HC15
          try clear c1
          try clear p1
          try clear q1
          try clear hx1
          try clear p2
          try clear q2
          try clear hx2
          try clear hf2
          try clear c3
          try clear c3b0
          try clear c3b1
          try clear c6
          try clear c6b0
          try clear p6
          try clear c7
          try clear c7b0
          try clear c8
          try clear c8b0
          try clear p9
          try clear q9
          try clear hx9
          try clear hf9
          try clear c12
          try clear c12b0
          try clear c13
          try clear c14
          try clear c14b0
          try clear c16
          try clear p16
          try clear q16
          try clear hx16
          try clear c17
          try clear c17b0
          try clear c17b1
          try clear c18
          try clear c18b0
          try clear c19
          try clear c19b0
          try clear p20
          try clear q20
          try clear hx20
          try clear hf20
          try clear hx160_0
          try clear hx160_1
          try clear hx160_2
          try clear hx160_3
          try clear hx160_4
          try clear hx160_5
          try clear hx160_6
          try clear hx161_0
          try clear hx161_1
          try clear hx161_2
          try clear hx161_3
          try clear hx161_4
          try clear hx161_5
          try clear hx161_6
          try clear hx20_0
          try clear hx9_0
          try clear p160
          try clear p161
          try clear p2
          try clear p20
          try clear p6
          try clear p9
          try clear q160
          try clear q161
          try clear q20
          try clear q9
          obtain ⟨kq, x7_14, HA, HJ14, a3, HO_9, HB⟩ := hcut
          cases kq with
          | zero => exact absurd HA.out (by simp [switchbackref17_Places.j2])
          | succ kj14 =>
           have H := HA.out
           clear HA
           simp only [switchbackref17_Places.j2] at H
           by_cases c23 : 0 ≤ a2
           ·rw [if_pos c23] at H
            have c23b0 : decide (0 ≤ a2) = true := decide_eq_true c23
            clear c23
            by_cases c24 : a2 < (l0.length : Int)
            ·rw [if_pos c24] at H
             have c24b0 : decide (a2 < (l0.length : Int)) = true := decide_eq_true c24
             clear c24
             by_cases c25 : a2 < (l1.length : Int)
             ·rw [if_pos c25] at H
              have c25b0 : decide (a2 < (l1.length : Int)) = true := decide_eq_true c25
              clear c25
              replace H := Option.bind_eq_some_iff.mp H
              obtain ⟨t165, A260, H⟩ := H
              replace H : (switchbackref17_Places.l1 kj14 l0 l1 x7_14 y157 (wrap64 (a4 + t165)) (wrap64 (a2 + 1))) = some (r1, r2, r3) := H
              have A26 := uZ A260
              clear A260
              have H' := uZ H
              clear H
              try go_wp2
              have n0_ := uZ (zC a3.out)
              have n1_ := uZ (zC HO_9.out)
              have n2_ := uZ (below_drew1 HB.out)
              clear a3
              clear HO_9
              clear HB
              have a3 := n0_
              have HO_9 := n1_
              have HB := n2_
              clear n0_ n1_ n2_
              have p163 : 0 ≤ (a2 : Int) := uA
              have q163 : a2 < (l0.length : Int) := uA
              obtain ⟨ad163, A163_6, c163_6, e163, a8, a9, aa, ab, ac, ad, ae, hl163_6, hi163_6⟩ := at_T40 HR0.out a2 p163 q163
              have hw163_6 := ae
              have hw163_5 := ad
              have hw163_4 := ac
              have hw163_3 := ab
              have hw163_2 := aa
              have hw163_1 := a9
              have hw163_0 := a8
              obtain rfl : a5 = ad163 := (by injection e163)
              replace a8 := (HB.out.cell (zD w _ a8)).trans a8
              replace a9 := (HB.out.cell (zD w _ a9)).trans a9
              replace aa := (HB.out.cell (zD w _ aa)).trans aa
              replace ab := (HB.out.cell (zD w _ ab)).trans ab
              replace ac := (HB.out.cell (zD w _ ac)).trans ac
              replace ad := (HB.out.cell (zD w _ ad)).trans ad
              replace ae := (HB.out.cell (zD w _ ae)).trans ae
              have HR163_6 := uZ hi163_6
              have HC163_6 := uZ hl163_6
              clear hi163_6 hl163_6
              replace p163 := eq_true p163
              replace q163 := eq_true q163
              have p164 : 0 ≤ (a2 : Int) := uA
              have q164 : a2 < (l1.length : Int) := uA
              obtain ⟨ad164, e164, af⟩ := Kd.at_bool HR1.out a2 p164 q164
              have hw164_0 := af
              cases e164
              replace af := (HB.out.cell (zD w _ af)).trans af
              replace p164 := eq_true p164
              replace q164 := eq_true q164
              refine start_ (n := 12) (S := fun w' => w'.cell? (a5.add ((a2).toNat * 7)) = some (.int .i64 ((rd_T40 l0 a2).f0)) ∧ w'.cell? ⟨(a5.add ((a2).toNat * 7)).block, (a5.add ((a2).toNat * 7)).off + 1, none⟩ = some (.int .i64 ((rd_T40 l0 a2).f1)) ∧ w'.cell? ⟨(a5.add ((a2).toNat * 7)).block, (a5.add ((a2).toNat * 7)).off + 2, none⟩ = some (.int .i64 ((rd_T40 l0 a2).f2)) ∧ w'.cell? ⟨(a5.add ((a2).toNat * 7)).block, (a5.add ((a2).toNat * 7)).off + 3, none⟩ = some (.int .i64 ((rd_T40 l0 a2).f3)) ∧ w'.cell? ⟨(a5.add ((a2).toNat * 7)).block, (a5.add ((a2).toNat * 7)).off + 4, none⟩ = some (.int .u32 ((rd_T40 l0 a2).f4)) ∧ w'.cell? ⟨(a5.add ((a2).toNat * 7)).block, (a5.add ((a2).toNat * 7)).off + 5, none⟩ = some (.int .i64 ((rd_T40 l0 a2).f5)) ∧ w'.cell? ⟨(a5.add ((a2).toNat * 7)).block, (a5.add ((a2).toNat * 7)).off + 6, none⟩ = some (.slice A163_6 ((rd_T40 l0 a2).f6).length c163_6) ∧ w'.cell? (ad164.add (a2).toNat) = some (.bool (rdOf false l1 a2))) (ds := []) #[false, false, false, false, false, false, false, false, false, false, false, false] (by kernel_rfl) rfl rfl ⟨((HB.out.cell (zD w _ hw163_0)).trans hw163_0), ((HB.out.cell (zD w _ hw163_1)).trans hw163_1), ((HB.out.cell (zD w _ hw163_2)).trans hw163_2), ((HB.out.cell (zD w _ hw163_3)).trans hw163_3), ((HB.out.cell (zD w _ hw163_4)).trans hw163_4), ((HB.out.cell (zD w _ hw163_5)).trans hw163_5), ((HB.out.cell (zD w _ hw163_6)).trans hw163_6), ((HB.out.cell (zD w _ hw164_0)).trans hw164_0)⟩ (fun hHeld => ?_); refine with_tabW switchbackref17_Places.tab14 switchbackref17_Places.bits14 (fun HT_ HW_ => ?_)
              generalize wc.drew = w27 at a3 HO_9 HB HR163_6 a8 a9 aa ab ac ad ae af hHeld ⊢
              refine pure_ (i := 0) (N := some 44) (v := ?_) (a' := ?_) #[true, false, false, false, false, false, false, false, false, false, false, false] rfl rfl (any_of HT_.out (by kernel_rfl)) (fun _ _ _ h => h) (Or.inl ⟨by rfl, ?_⟩) ?_ ?_
              rotate_left
              ·intro w'
               go_simp
               with_reducible rfl
              rotate_left
              ·simp only [Act.put, zE, zF, zG, i64_w, i32_w]
               rfl
              refine pure_ (i := 1) (N := some 45) (v := ?_) (a' := ?_) #[true, true, false, false, false, false, false, false, false, false, false, false] rfl rfl (any_of HT_.out (by kernel_rfl)) (fun _ _ _ h => h) (Or.inl ⟨by rfl, ?_⟩) ?_ ?_
              rotate_left
              ·intro w'
               go_simp
               with_reducible rfl
              rotate_left
              ·simp only [Act.put, zE, zF, zG, i64_w, i32_w]
               rfl
              refine pure_ (i := 2) (N := some 46) (v := ?_) (a' := ?_) #[true, true, true, false, false, false, false, false, false, false, false, false] rfl rfl (any_of HT_.out (by kernel_rfl)) (fun _ _ _ h => h) (Or.inl ⟨by rfl, ?_⟩) ?_ ?_
              rotate_left
              ·intro w'
               go_simp
               with_reducible rfl
              rotate_left
              ·simp only [Act.put, zE, zF, zG, i64_w, i32_w]
               rfl
              refine pure_ (i := 3) (N := some 47) (v := ?_) (a' := ?_) #[true, true, true, true, false, false, false, false, false, false, false, false] rfl rfl (any_of HT_.out (by kernel_rfl)) (fun _ _ _ h => h) (Or.inl ⟨by rfl, ?_⟩) ?_ ?_
              rotate_left
              ·intro w'
               go_simp
               with_reducible rfl
              rotate_left
              ·simp only [Act.put, zE, zF, zG, i64_w, i32_w]
               rfl
              refine pure_ (i := 5) (N := some 49) (v := ?_) (a' := ?_) #[true, true, true, true, false, true, false, false, false, false, false, false] rfl rfl (any_of HT_.out (by kernel_rfl)) (fun _ _ _ h => h) (Or.inl ⟨by rfl, ?_⟩) ?_ ?_
              rotate_left
              ·intro w'
               go_simp
               with_reducible rfl
              rotate_left
              ·simp only [Act.put, zE, zF, zG, i64_w, i32_w]
               rfl
              refine pure_ (i := 6) (N := some 50) (v := ?_) (a' := ?_) #[true, true, true, true, false, true, true, false, false, false, false, false] rfl rfl (any_of HT_.out (by kernel_rfl)) (fun _ _ _ h => h) (Or.inl ⟨by rfl, ?_⟩) ?_ ?_
              rotate_left
              ·intro w'
               go_simp
               with_reducible rfl
              rotate_left
              ·simp only [Act.put, zE, zF, zG, i64_w, i32_w]
               rfl
              refine pure_ (i := 7) (N := some 51) (v := ?_) (a' := ?_) #[true, true, true, true, false, true, true, true, false, false, false, false] rfl rfl (any_of HT_.out (by kernel_rfl)) (fun _ _ _ h => h) (Or.inl ⟨by rfl, ?_⟩) ?_ ?_
              rotate_left
              ·intro w'
               go_simp
               with_reducible rfl
              rotate_left
              ·simp only [Act.put, zE, zF, zG, i64_w, i32_w]
               rfl
              refine take_ (i := 4) (N := some 48) (v := ?_) (a' := ?_) #[true, true, true, true, true, true, true, true, false, false, false, false] rfl rfl (take_ofW HT_.out HW_.out (by kernel_rfl)) (fun _ _ _ h => h) (Or.inl ⟨by rfl, ?_⟩) hHeld ?_ ?_
              rotate_left
              ·rintro w' ⟨s0, s1, s2, s3, s4, s5, s6, s7⟩
               go_simp
               with_reducible rfl
              rotate_left
              ·simp only [Act.put, zE, zF, zG, i64_w, i32_w]
               rfl
              refine take_ (i := 8) (N := some 52) (v := ?_) (a' := ?_) #[true, true, true, true, true, true, true, true, true, false, false, false] rfl rfl (take_ofW HT_.out HW_.out (by kernel_rfl)) (fun _ _ _ h => h) (Or.inl ⟨by rfl, ?_⟩) hHeld ?_ ?_
              rotate_left
              ·rintro w' ⟨s0, s1, s2, s3, s4, s5, s6, s7⟩
               go_simp
               with_reducible rfl
              rotate_left
              ·simp only [Act.put, zE, zF, zG, i64_w, i32_w]
               rfl
              refine one_ (i := 9) (N := some 53) #[true, true, true, true, true, true, true, true, true, true, false, false] rfl rfl (one_of HT_.out (by kernel_rfl)) (by decide) (fun K hK => ?_)
              refine goes_ Tryd.func55 (by kernel_rfl) rfl #[.agg #[.int .i64 ((rd_T40 l0 a2).f0), .int .i64 ((rd_T40 l0 a2).f1), .int .i64 ((rd_T40 l0 a2).f2), .int .i64 ((rd_T40 l0 a2).f3), .int .u32 ((rd_T40 l0 a2).f4), .int .i64 ((rd_T40 l0 a2).f5), .slice A163_6 ((rd_T40 l0 a2).f6).length c163_6], .bool (rdOf false l1 a2)] (by rfl) rfl rfl (by (try simp only [List.map_toArray, List.map_cons, List.map_nil]); first | done | rfl | (simp only [List.length_drop, List.length_take]; rfl)) ?_
              with_reducible refine (switchbackref17_Size.calls kj14 ((rd_T40 l0 a2).f0) ((rd_T40 l0 a2).f1) ((rd_T40 l0 a2).f2) ((rd_T40 l0 a2).f3) ((rd_T40 l0 a2).f4) ((rd_T40 l0 a2).f5) _ _ ((rd_T40 l0 a2).f6) (rdOf false l1 a2) t165 _ ?side1 ?side2 A26.out).mono ?_
              (case side1 => repeat (first | exact (Kd.C_below HR163_6.out HB.out) | (with_reducible refine Kd.C_alloc ?_ _) | (with_reducible refine Kd.C_drewN ?_ _) | (with_reducible refine Kd.C_drew ?_)))
              (case side2 => exact HC163_6.out)
              rintro e w28 ⟨rfl, hb⟩
              refine ⟨_, rfl, ?_⟩
              have n0_ := uZ (Kd.R_below (uR a3.out) hb)
              have n1_ := uZ (Kd.R_below (uR HO_9.out) hb)
              have n2_ := uZ (below_step (uB HB.out) hb)
              clear a3
              clear HO_9
              clear HB
              have a3 := n0_
              have HO_9 := n1_
              have HB := n2_
              clear n0_ n1_ n2_
              (try clear hb)
              (try clear hb2)
              (try clear hk)
              (try clear hi)
              refine hK.out _ _ ⟨((HB.out.cell (zD w _ hw163_0)).trans hw163_0), ((HB.out.cell (zD w _ hw163_1)).trans hw163_1), ((HB.out.cell (zD w _ hw163_2)).trans hw163_2), ((HB.out.cell (zD w _ hw163_3)).trans hw163_3), ((HB.out.cell (zD w _ hw163_4)).trans hw163_4), ((HB.out.cell (zD w _ hw163_5)).trans hw163_5), ((HB.out.cell (zD w _ hw163_6)).trans hw163_6), ((HB.out.cell (zD w _ hw164_0)).trans hw164_0)⟩ (fun hHeld => ?_)
              clear hK K
              refine norm_ (a' := ?_) ?_ ?_
              rotate_left
              ·show Act.put _ (some 53) _ = _
               simp only [Act.put, zE, zF, zG, i64_w, i32_w]
               rfl
              refine pure_ (i := 10) (N := some 54) (v := ?_) (a' := ?_) #[true, true, true, true, true, true, true, true, true, true, true, false] rfl rfl (any_of HT_.out (by kernel_rfl)) (fun _ _ _ h => h) (Or.inl ⟨by rfl, ?_⟩) ?_ ?_
              rotate_left
              ·intro w'
               go_simp
               with_reducible rfl
              rotate_left
              ·simp only [Act.put, zE, zF, zG, i64_w, i32_w]
               rfl
              refine pure_ (i := 11) (N := some 10) (v := ?_) (a' := ?_) #[true, true, true, true, true, true, true, true, true, true, true, true] rfl rfl (any_of HT_.out (by kernel_rfl)) (fun _ _ _ h => h) (Or.inl ⟨by rfl, ?_⟩) ?_ ?_
              rotate_left
              ·intro w'
               go_simp
               with_reducible rfl
              rotate_left
              ·simp only [Act.put, zE, zF, zG, i64_w, i32_w]
               rfl
              refine done_ (done_of HT_.out (by kernel_rfl)) ?_
              try go_wp2
              go_roundg kj14
              case measure => have := HK1.out; have := HK2.out; have := HJ14.out; omega
              case rel => exact ⟨(x7_14), (y157), (wrap64 (a4 + t165)), (wrap64 (a2 + 1)), (by first | rfl | (simp; done) | (simp [*]; done)), (by first | rfl | (simp; done) | (simp [*]; done)), H', ⟨by have := HK1.out; have := HK2.out; have := HJ14.out; omega⟩, ⟨uR a3.out⟩, ⟨uR HO_9.out⟩, ⟨uB HB.out⟩⟩
             rw [if_neg c25] at H
             exact absurd H (by simp)
            rw [if_neg c24] at H
            exact absurd H (by simp)
           rw [if_neg c23] at H
           exact absurd H (by simp)
        rw [if_neg c14] at H
        exact absurd H (by simp)
       rw [if_neg c13] at H
       exact absurd H (by simp)
      rw [if_neg c12] at H
      have c12b0 : decide (a2 < (l0.length : Int)) = false := decide_eq_false c12
      clear c12
      simp only [Option.some.injEq, Prod.mk.injEq] at H
      obtain ⟨rfl, rfl, rfl⟩ := H
      go_wp2
      go_ret3
      exact ⟨_, _, by first | rfl | (simp [errW_none, errW_some] <;> rfl) | (simp [*, errW_none, errW_some] <;> rfl), by (with_reducible repeat (first | apply zA | apply zB | apply zC)); exact HO_9.out, by (with_reducible repeat (first | apply zA | apply zB | apply zC)); exact a3.out, by repeat (first | (with_reducible first | exact HB.out | apply below_alloc | apply pw_below_drewN | apply below_drew1) | exact HB.out)⟩
 rw [if_neg c3] at H
 exact absurd H (by simp)

end Go.Proofs.YtamimnaafiphcaaDoor.PR1D

-- Written by gp.py for this claim.
namespace Go.Proofs.YtamimnaafiphcaaDoor.PR1D
open Go.RowKit Go.Proofs.YtamimnaafiphcaaDoorW.PrintWords Go.Proofs.YtamimnaafiphcaaDoorW.PrintLast Go.Proofs.YtamimnaafiphcaaDoorW.PrintMore
attribute [local go_sem] max2_int min2_int max_two min_two max_three min_three max_four min_four   -- for this text's walks alone
set_option linter.unusedVariables false
set_option linter.unusedSimpArgs false

namespace q_switchbacklaw17_Copy
theorem uZ {p : Prop} (h : p) : Aside0 p := ⟨h⟩
theorem uB {p q : Prop} (h : p) (g : p → q := by intro h; repeat (first | (with_reducible first | exact h | apply below_alloc | apply pw_below_drewN | apply below_drew1) | exact h)) : q := g h
theorem uA {p : Prop} [Decidable p] (h : decide p = true := by first | (with_reducible assumption) | assumption) : p := of_decide_eq_true h
theorem zA : type_of% @Kd.V_alloc := @Kd.V_alloc
theorem zB : type_of% @Kd.V_drewN := @Kd.V_drewN
end q_switchbacklaw17_Copy
open q_switchbacklaw17_Copy

/-! ### switchbacklaw17_Copy: function 18 -/
def switchbacklaw17_Copy.l0 : Nat → List (S40) → List (S40) → Int → Option ((List (S40)))
  | 0, _, _, _ => none
  | k + 1, x0, x3, x4 => if x4 < (x3.length : Int) then (if 0 ≤ x4 then (if x4 < (x0.length : Int) then (if ([] : List Int).length + ((rd_T40 x0 x4).f6).length < 17592186044416 then (switchbacklaw17_Copy.l0 k x0 (x3.set (x4 : Int).toNat (⟨(rd_T40 x3 x4).f0, (rd_T40 x3 x4).f1, (rd_T40 x3 x4).f2, (rd_T40 x3 x4).f3, (rd_T40 x3 x4).f4, (rd_T40 x3 x4).f5, (([] : List Int) ++ ((rd_T40 x0 x4).f6))⟩ : S40)) (wrap64 (x4 + 1))) else (none)) else (none)) else (none)) else (some x3)
def switchbacklaw17_Copy.f (k : Nat) (l0 : List (S40)) : Option ((List (S40))) := if ([] : List (S40)).length + l0.length < 1954687338268 then (switchbacklaw17_Copy.l0 k l0 (([] : List (S40)) ++ l0) 0) else (none)
theorem switchbacklaw17_Copy.mono_l : ∀ k, (∀ y0 y1 y2, LeO (switchbacklaw17_Copy.l0 k y0 y1 y2) (switchbacklaw17_Copy.l0 (k + 1) y0 y1 y2))
  | 0 => fun _ _ _ r h => by simp [switchbacklaw17_Copy.l0] at h
  | k + 1 => by
    have ih0 := switchbacklaw17_Copy.mono_l k
    · intro y0 y1 y2
      unfold switchbacklaw17_Copy.l0
      repeat' first
      | (with_reducible exact ih0 _ _ _)
      | (with_reducible exact LeO.refl _)
      | (with_reducible exact LeO.none _)
      | (with_reducible refine LeO.ite ?_ ?_)
      | (with_reducible refine LeO.bind ?_ (fun _ => ?_))
      | exact ih0 _ _ _
      | exact LeO.none _
      | refine LeO.ite ?_ ?_
      | refine LeO.bind ?_ (fun _ => ?_)
theorem switchbacklaw17_Copy.mono : ∀ a0 k, LeO (switchbacklaw17_Copy.f k a0) (switchbacklaw17_Copy.f (k + 1) a0) := by
  intro a0 k
  have ih0 := switchbacklaw17_Copy.mono_l k
  unfold switchbacklaw17_Copy.f
  repeat' first
      | (with_reducible exact ih0 _ _ _)
      | (with_reducible exact LeO.refl _)
      | (with_reducible exact LeO.none _)
      | (with_reducible refine LeO.ite ?_ ?_)
      | (with_reducible refine LeO.bind ?_ (fun _ => ?_))
      | exact ih0 _ _ _
      | exact LeO.none _
      | refine LeO.ite ?_ ?_
      | refine LeO.bind ?_ (fun _ => ?_)
set_option maxHeartbeats 8000000 in
set_option maxRecDepth 100000 in
theorem switchbacklaw17_Copy.calls (k : Nat) (P0_ : Nat → Prop) (A0 : Option Addr) (c0 : Nat) (l0 : List (S40)) (r : List (S40)) (w : World) (hs0 : Kd.V k40 40 w w.heap.size (fun k_ => P0_ k_) (.slice A0 l0.length c0) l0) (h : switchbacklaw17_Copy.f k l0 = some r) :
    Calls Tryd.prog 18 #[.slice A0 l0.length c0] w fun e w' => ∃ v0_ : Value, e = .returned (v0_) ∧ Kd.N k40 40 w' w.heap.size (fun k_ => (P0_ k_ ∨ w.heap.size ≤ k_)) v0_ r ∧ Below w.heap.size w w' := by
 have HO0 := uZ (show Kd.V k40 40 w w.heap.size (fun k_ => (P0_ k_ ∨ w.heap.size ≤ k_)) (.slice A0 l0.length c0) l0 from Kd.V_mono hs0 (fun k_ hk => .inl hk))
 have HB := uZ (Below.refl w.heap.size w)
 have H : (if ([] : List (S40)).length + l0.length < 1954687338268 then (switchbacklaw17_Copy.l0 k l0 (([] : List (S40)) ++ l0) 0) else (none)) = some r := h
 clear h
 by_cases c2 : ([] : List (S40)).length + l0.length < 1954687338268
 ·rw [if_pos c2] at H
  have LMc2 := uZ c2
  clear c2
  obtain ⟨y101, hy101⟩ : ∃ y_ : List (S40), y_ = (([] : List (S40)) ++ l0) := ⟨_, rfl⟩
  replace H : (switchbacklaw17_Copy.l0 k l0 y101 0) = some r := by first | (rw [hy101]; with_reducible exact H) | (have H2_ := (Option.bind_some _ _).symm.trans H; rw [hy101]; with_reducible exact H2_) | (have H2_ := (Option.bind_some _ _).symm.trans H; with_reducible exact H2_) | with_reducible exact H | (rw [hy101]; exact H) | exact H
  have Ny101 := uZ hy101
  clear hy101
  have H' := uZ H
  clear H
  go_enter Tryd.func18, Tryd.ntmps18
  go_wp2_with (first | ((with_reducible refine gate_builtin (b := .append) (xs := #[.tmp 6, .tmp 7]) rfl ?_); at_builtin; refine Kd.N_append_rows k40 (w0 := w) w.heap.size rfl (.tmp 6) (.tmp 7) 22 40 (.agg #[(.int .i64 0), (.int .i64 0), (.int .i64 0), (.int .i64 0), (.int .u32 0), (.int .i64 0), (.slice none 0 0)]) 72 rfl Tryd.underlying22 info40 rfl (by decide) (by omega) (.slice none 0 0) ([] : List (S40)) l0 _ _ _ (fun k_ => (P0_ k_ ∨ w.heap.size ≤ k_)) (fun k_ => ((fun k_ => (P0_ k_ ∨ w.heap.size ≤ k_))) k_ ∧ some k_ ≠ (.slice none 0 0 : Value).ownBlock) rfl rfl ?aO ?aR (fun _ hk => hk) ?aF ?aB ?aS ?aL ?_; (case aR => exact (by skip; exact Kd.V_F (Kd.V_mono (ok' := (fun k_ => ((fun k_ => (P0_ k_ ∨ w.heap.size ≤ k_))) k_ ∧ some k_ ≠ (.slice none 0 0 : Value).ownBlock)) (HO0.out) (fun k_ hk => ⟨hk, (by simp [Value.ownBlock])⟩)))); (case aB => exact (uB HB.out)); (case aF => exact (fun k_ hk => (.inr (Nat.le_trans (below_size (uB HB.out)) hk)))); (case aO => exact ((Kd.N_nil _ _ _ _ (fun k_ => (P0_ k_ ∨ w.heap.size ≤ k_))))); (case aS => exact (below_size (uB HB.out))); (case aL => have := LMc2.out; omega); intro v102 w3 ho hb hg hat; rw [← Ny101.out] at ho; have n0_ := uZ (Kd.V_afterv (Kd.V_apart_nil (by (with_reducible repeat (first | apply zA | apply zB | apply Kd.V_drew)); exact HO0.out)) hg hat); have n1_ := uZ (hb); have n2_ := uZ (ho); clear HO0; clear HB; have HO0 := n0_; have HB := n1_; have HO103 := n2_; clear n0_ n1_ n2_; clear ho hb hg hat))
  go_loopg [4] k (fun kq v4 w' => ∃ (a2 : List (S40)) (a1 : Int), v4 = .int .i64 a1 ∧ Aside0 (switchbacklaw17_Copy.l0 kq l0 a2 a1 = some r) ∧ Aside0 (kq ≤ k) ∧ Aside0 (Kd.V k40 40 w' w.heap.size (fun k_ => (P0_ k_ ∨ w.heap.size ≤ k_) ∧ some k_ ≠ (v102 : Value).ownBlock) (.slice A0 l0.length c0) l0) ∧ Aside0 (Kd.N k40 40 w' w.heap.size (fun k_ => (P0_ k_ ∨ w.heap.size ≤ k_)) v102 a2) ∧ Aside0 (Below w.heap.size w w'))
  case atStart => exact ⟨(y101), (0), (by first | rfl | (simp; done) | (simp [*]; done)), H', ⟨Nat.le_refl _⟩, ⟨by (with_reducible repeat (first | apply zA | apply zB | apply Kd.V_drew)); exact HO0.out⟩, ⟨by (with_reducible repeat (first | apply Kd.N_alloc | apply Kd.N_drewN | apply Kd.N_drew)); exact HO103.out⟩, ⟨uB HB.out⟩⟩
  case round =>
   clear H'
   try clear c1
   try clear c2
   try clear p2
   obtain ⟨a2, a1, rfl, HA, HK1, HO_0, a3, HB⟩ := hrel
   cases gk with
   | zero => exact absurd HA.out (by simp [switchbacklaw17_Copy.l0])
   | succ k1 =>
    have H := HA.out
    clear HA
    simp only [switchbacklaw17_Copy.l0] at H
    by_cases c4 : a1 < (a2.length : Int)
    ·rw [if_pos c4] at H
     have c4b0 : decide (a1 < (a2.length : Int)) = true := decide_eq_true c4
     clear c4
     by_cases c5 : 0 ≤ a1
     ·rw [if_pos c5] at H
      have c5b0 : decide (0 ≤ a1) = true := decide_eq_true c5
      clear c5
      by_cases c6 : a1 < (l0.length : Int)
      ·rw [if_pos c6] at H
       have c6b0 : decide (a1 < (l0.length : Int)) = true := decide_eq_true c6
       clear c6
       by_cases c7 : ([] : List Int).length + ((rd_T40 l0 a1).f6).length < 17592186044416
       ·rw [if_pos c7] at H
        have LMc7 := uZ c7
        clear c7
        obtain ⟨y105, hy105⟩ : ∃ y_ : List Int, y_ = (([] : List Int) ++ ((rd_T40 l0 a1).f6)) := ⟨_, rfl⟩
        replace H : (switchbacklaw17_Copy.l0 k1 l0 (a2.set (a1 : Int).toNat (⟨(rd_T40 a2 a1).f0, (rd_T40 a2 a1).f1, (rd_T40 a2 a1).f2, (rd_T40 a2 a1).f3, (rd_T40 a2 a1).f4, (rd_T40 a2 a1).f5, y105⟩ : S40)) (wrap64 (a1 + 1))) = some r := by first | (rw [hy105]; with_reducible exact H) | (have H2_ := (Option.bind_some _ _).symm.trans H; rw [hy105]; with_reducible exact H2_) | (have H2_ := (Option.bind_some _ _).symm.trans H; with_reducible exact H2_) | with_reducible exact H | (rw [hy105]; exact H) | exact H
        have Ny105 := uZ hy105
        clear hy105
        obtain ⟨y108, hy108⟩ : ∃ y_ : List (S40), y_ = (a2.set (a1 : Int).toNat (⟨(rd_T40 a2 a1).f0, (rd_T40 a2 a1).f1, (rd_T40 a2 a1).f2, (rd_T40 a2 a1).f3, (rd_T40 a2 a1).f4, (rd_T40 a2 a1).f5, y105⟩ : S40)) := ⟨_, rfl⟩
        replace H : (switchbacklaw17_Copy.l0 k1 l0 y108 (wrap64 (a1 + 1))) = some r := by first | (rw [hy108]; with_reducible exact H) | (have H2_ := (Option.bind_some _ _).symm.trans H; rw [hy108]; with_reducible exact H2_) | (have H2_ := (Option.bind_some _ _).symm.trans H; with_reducible exact H2_) | with_reducible exact H | (rw [hy108]; exact H) | exact H
        have Ny108 := uZ hy108
        clear hy108
        have H' := uZ H
        clear H
        obtain ⟨Ao9, co9, eo9⟩ := Kd.N_slice a3.out
        subst eo9
        have p104 : 0 ≤ (a1 : Int) := uA
        have q104 : a1 < (l0.length : Int) := uA
        obtain ⟨ad104, A104_6, c104_6, e104, hx104_0, hx104_1, hx104_2, hx104_3, hx104_4, hx104_5, hx104_6, hl104_6, hi104_6⟩ := at_T40 (Kd.V_reads' HO_0.out).2.2 a1 p104 q104
        cases e104
        obtain ⟨ce104, hce104, hMe104, hcc104⟩ := Kd.V_get HO_0.out z40 a1 p104 (by first | exact q104 | exact uA | (have e_ := (Kd.V_reads' HO_0.out).1; omega))
        obtain ⟨ua104_6, uc104_6, rfl, ul104_6, ge104_6⟩ := k40_openF hMe104
        have hv104_6 := hcc104 6 _ rfl
        rw [add_field _ _ 6 (by omega)] at hv104_6
        replace hv104_6 := Option.some.inj (hv104_6.symm.trans hx104_6)
        injection hv104_6 with hva_ hvn_ hvc_
        rw [hva_] at ge104_6
        rw [hvc_] at ul104_6
        have HL104_6 := uZ (show Kd.V (Kd.int .i64) 3 _ w.heap.size _ _ ((rd_T40 l0 a1).f6) from Kd.V_mk ul104_6 ge104_6)
        clear hva_ hvn_ hvc_ ge104_6 ul104_6
        clear hcc104 hce104
        have HR104_6 := uZ hi104_6
        have HC104_6 := uZ hl104_6
        clear hi104_6 hl104_6
        replace p104 := eq_true p104
        replace q104 := eq_true q104
        go_wp2_with (first | ((with_reducible refine gate_builtin (b := .append) (xs := #[.tmp 17, .tmp 22]) rfl ?_); at_builtin; refine Kd.R_append_rows (Kd.int .i64) (w0 := w) w.heap.size rfl (.tmp 17) (.tmp 22) 25 3 (.int .i64 0) 8 rfl Tryd.underlying25 info3 rfl (by decide) (by omega) (.slice none 0 0) ([] : List Int) ((rd_T40 l0 a1).f6) _ _ _ (fun k_ => (w.heap.size ≤ k_)) (fun _ => False) rfl rfl ?aO ?aR (fun _ _ h => h) (fun _ h => h.elim) ?aF ?aB ?aS ?aL ?_; (case aR => repeat (first | exact (by repeat (first | (with_reducible exact HR104_6.out) | (with_reducible refine Kd.C_alloc ?_ _) | (with_reducible refine Kd.C_drewN ?_ _) | (with_reducible refine Kd.C_drew ?_) | exact HR104_6.out)) | (with_reducible refine Kd.C_alloc ?_ _) | (with_reducible refine Kd.C_drewN ?_ _) | (with_reducible refine Kd.C_drew ?_))); (case aB => exact (uB HB.out)); (case aF => exact (fun k_ hk => (Nat.le_trans (below_size (uB HB.out)) hk))); (case aO => exact ((Kd.R_nil _ _ _ _ (fun k_ => (w.heap.size ≤ k_))))); (case aS => exact (below_size (uB HB.out))); (case aL => have := LMc7.out; omega); intro v106 w10 ho hb hg hat; rw [← Ny105.out] at ho; obtain ⟨Aq_, cq_, rfl⟩ := Kd.R_slice ho; have n0_ := uZ (Kd.V_afterv (Kd.V_apart_nil (by (with_reducible repeat (first | apply zA | apply zB | apply Kd.V_drew)); exact HO_0.out)) hg hat); have n1_ := uZ (Kd.N_afterv (Kd.N_apart_nil (by (with_reducible repeat (first | apply Kd.N_alloc | apply Kd.N_drewN | apply Kd.N_drew)); exact a3.out)) hg hat); have n2_ := uZ (Kd.V_afterv (Kd.V_apart_nil (by (with_reducible repeat (first | apply zA | apply zB | apply Kd.V_drew)); exact HL104_6.out)) hg hat); have n3_ := uZ (hb); have n4_ := uZ (ho); clear HO_0; clear a3; clear HL104_6; clear HB; have HO_0 := n0_; have a3 := n1_; have HL104_6 := n2_; have HB := n3_; have HO107 := n4_; clear n0_ n1_ n2_ n3_ n4_; clear ho hb hg hat; have p8 : 0 ≤ (a1 : Int) := uA; have q8 : (a1 : Int) < ((a2.length : Int) : Int) := uA; obtain ⟨go8, co8, eo8, gb8, gl8, cl8, HG8⟩ := Kd.N_form a3.out (by omega); (first | cases eo8 | (injection eo8 with ea_ en_ ec_; (first | subst ea_ | (injection ea_ with ea_; subst ea_)); subst ec_; clear en_)); have GB8 := uZ gb8; have GG8 := uZ HG8; clear gb8 gl8 HG8; obtain ⟨ce8, hcl8, hM8, hcc8, hfr8⟩ := Kd.N_elem a3.out z40 (a1 : Int) p8 q8; obtain ⟨ua8_6, uc8_6, rfl, ul8_6, ge8_6⟩ := k40_openF hM8; have hx8_0 : w10.cell? ⟨go8, (a1 : Int).toNat * 7, none⟩ = some (.int .i64 ((rd_T40 a2 a1).f0)) := hcc8 0 _ rfl; have hx8_1 : w10.cell? ⟨go8, (a1 : Int).toNat * 7 + 1, none⟩ = some (.int .i64 ((rd_T40 a2 a1).f1)) := hcc8 1 _ rfl; have hx8_2 : w10.cell? ⟨go8, (a1 : Int).toNat * 7 + 2, none⟩ = some (.int .i64 ((rd_T40 a2 a1).f2)) := hcc8 2 _ rfl; have hx8_3 : w10.cell? ⟨go8, (a1 : Int).toNat * 7 + 3, none⟩ = some (.int .i64 ((rd_T40 a2 a1).f3)) := hcc8 3 _ rfl; have hx8_4 : w10.cell? ⟨go8, (a1 : Int).toNat * 7 + 4, none⟩ = some (.int .u32 ((rd_T40 a2 a1).f4)) := hcc8 4 _ rfl; have hx8_5 : w10.cell? ⟨go8, (a1 : Int).toNat * 7 + 5, none⟩ = some (.int .i64 ((rd_T40 a2 a1).f5)) := hcc8 5 _ rfl; have hx8_6 : w10.cell? ⟨go8, (a1 : Int).toNat * 7 + 6, none⟩ = some (.slice ua8_6 ((rd_T40 a2 a1).f6).length uc8_6) := hcc8 6 _ rfl; have hf8_0 : w10.frozen? ⟨go8, (a1 : Int).toNat * 7, none⟩ = false := hfr8 0; have hf8_1 : w10.frozen? ⟨go8, (a1 : Int).toNat * 7 + 1, none⟩ = false := hfr8 1; have hf8_2 : w10.frozen? ⟨go8, (a1 : Int).toNat * 7 + 2, none⟩ = false := hfr8 2; have hf8_3 : w10.frozen? ⟨go8, (a1 : Int).toNat * 7 + 3, none⟩ = false := hfr8 3; have hf8_4 : w10.frozen? ⟨go8, (a1 : Int).toNat * 7 + 4, none⟩ = false := hfr8 4; have hf8_5 : w10.frozen? ⟨go8, (a1 : Int).toNat * 7 + 5, none⟩ = false := hfr8 5; have hf8_6 : w10.frozen? ⟨go8, (a1 : Int).toNat * 7 + 6, none⟩ = false := hfr8 6; clear hcl8 hcc8 hfr8 hM8; replace p8 := eq_true p8; replace q8 := eq_true q8; have HX11 := uZ (show Kd.N k40 40 w10 w.heap.size (fun k_ => (P0_ k_ ∨ w.heap.size ≤ k_)) (.slice (some ⟨go8, 0, none⟩) a2.length co9) a2 from (by (with_reducible repeat (first | apply Kd.N_alloc | apply Kd.N_drewN | apply Kd.N_drew)); exact Kd.N_mono a3.out (fun _ hk => hk.1))); obtain ⟨ce11, hcl11, hM11, hcc11, hfr11⟩ := Kd.N_elem HX11.out z40 (a1 : Int) (uA) (by have h_ : (a1 : Int) < ((a2.length : Int) : Int) := uA; first | exact h_ | (have e_ := (Kd.N_reads' a3.out).1; omega) | simpa using h_); obtain ⟨ua11_6, uc11_6, rfl, ul11_6, ge11_6⟩ := k40_openF hM11; have HP11 := Kd.N_seg HX11.out (a1 : Int) (uA) (by have h_ : (a1 : Int) < ((a2.length : Int) : Int) := uA; first | exact h_ | (have e_ := (Kd.N_reads' a3.out).1; omega) | simpa using h_) (seg := [(.slice Aq_ y105.length cq_)]) (j := 6) hcl11 hcc11 (show 7 ≤ 7 from by decide) (x' := (⟨(rd_T40 a2 a1).f0, (rd_T40 a2 a1).f1, (rd_T40 a2 a1).f2, (rd_T40 a2 a1).f3, (rd_T40 a2 a1).f4, (rd_T40 a2 a1).f5, y105⟩ : S40)) (k40_mkF _ _ (⟨(rd_T40 a2 a1).f0, (rd_T40 a2 a1).f1, (rd_T40 a2 a1).f2, (rd_T40 a2 a1).f3, (rd_T40 a2 a1).f4, (rd_T40 a2 a1).f5, y105⟩ : S40) (Kd.R_reads' (Kd.R_mono (ok' := (fun k_ => ((fun k_ => (P0_ k_ ∨ w.heap.size ≤ k_))) k_ ∧ k_ ≠ go8)) (Kd.R_apart' (HO107.out) (Kd.N_typed a3.out) (by decide)) (fun k_ hk => ⟨(.inr (hk.1)), fun e_ => (hk.2) (by rw [e_]; rfl)⟩))).2.1 (Kd.R_F (Kd.R_mono (ok' := (fun k_ => ((fun k_ => (P0_ k_ ∨ w.heap.size ≤ k_))) k_ ∧ k_ ≠ go8)) (Kd.R_apart' (HO107.out) (Kd.N_typed a3.out) (by decide)) (fun k_ hk => ⟨(.inr (hk.1)), fun e_ => (hk.2) (by rw [e_]; rfl)⟩)))) (fun _ hk => hk); have hx11_6 := hcc11 6 _ rfl; (try simp only [show (k40).sz = 7 from rfl, Nat.mul_one, Nat.add_zero] at hx11_6); have hf11_6 := hfr11 6; (try simp only [show (k40).sz = 7 from rfl, Nat.mul_one, Nat.add_zero] at hf11_6); clear hcl11 hcc11 hfr11 hM11) | ((with_reducible refine gate_store (t := 25) (p := 25) rfl ?_); refine store_event (t := 25) (p := 25) (v := ?vo_w12) (w1 := (w10.setCell ⟨go8, (a1 : Int).toNat * 7 + 6, none⟩ (.slice Aq_ y105.length cq_))) ?hg ?ho ?hn ?hr ?_; (case ho => rfl); (case hg => rfl); (case hn => rfl); (case hr => first | (go_simp; done) | (go_simp; rfl)); intro w12 hw; have hg : w10.grownBy w12 (some go8) := (by rw [hw]; exact HP11.2); have hp_ : Kd.N k40 40 w12 w.heap.size (fun k_ => (P0_ k_ ∨ w.heap.size ≤ k_)) (.slice (some ⟨go8, 0, none⟩) a2.length co9) y108 := (by rw [hw, Ny108.out]; exact HP11.1); clear HP11; have n0_ := uZ (Kd.V_afterv (v := (.slice (some ⟨go8, 0, none⟩) a2.length co9)) (v1 := (.slice (some ⟨go8, 0, none⟩) a2.length co9)) (ok := (fun k_ => (P0_ k_ ∨ w.heap.size ≤ k_) ∧ some k_ ≠ ((.slice Aq_ y105.length cq_) : Value).ownBlock)) (by (with_reducible repeat (first | apply zA | apply zB | apply Kd.V_drew)); exact Kd.V_mono HO_0.out (fun _ hk => ⟨⟨hk.1.1, hk.2⟩, hk.1.2⟩)) hg (.inl rfl)); have n1_ := uZ (hp_); have n2_ := uZ (Kd.V_afterv (v := (.slice (some ⟨go8, 0, none⟩) a2.length co9)) (v1 := (.slice (some ⟨go8, 0, none⟩) a2.length co9)) (ok := (fun k_ => (P0_ k_ ∨ w.heap.size ≤ k_) ∧ some k_ ≠ ((.slice Aq_ y105.length cq_) : Value).ownBlock)) (by (with_reducible repeat (first | apply zA | apply zB | apply Kd.V_drew)); exact Kd.V_mono HL104_6.out (fun _ hk => ⟨⟨hk.1.1, hk.2⟩, hk.1.2⟩)) hg (.inl rfl)); have n3_ := uZ ((by rw [hw]; exact below_set (HB.out) GB8.out : Below w.heap.size w w12)); clear HO_0; clear a3; clear HL104_6; clear HB; clear HO107; have HO_0 := n0_; have a3 := n1_; have HL104_6 := n2_; have HB := n3_; clear n0_ n1_ n2_ n3_; clear hg hw hp_))
        go_roundg k1
        case measure => have := HK1.out; omega
        case rel => exact ⟨(y108), (wrap64 (a1 + 1)), (by first | rfl | (simp; done) | (simp [*]; done)), H', ⟨by have := HK1.out; omega⟩, ⟨by (with_reducible repeat (first | apply zA | apply zB | apply Kd.V_drew)); exact Kd.V_mono HO_0.out (fun _ hk => ⟨hk.1.1, hk.2⟩)⟩, ⟨by (with_reducible repeat (first | apply Kd.N_alloc | apply Kd.N_drewN | apply Kd.N_drew)); exact a3.out⟩, ⟨uB HB.out⟩⟩
       rw [if_neg c7] at H
       exact absurd H (by simp)
      rw [if_neg c6] at H
      exact absurd H (by simp)
     rw [if_neg c5] at H
     exact absurd H (by simp)
    rw [if_neg c4] at H
    have c4b0 : decide (a1 < (a2.length : Int)) = false := decide_eq_false c4
    clear c4
    obtain rfl := Option.some.inj H
    obtain ⟨Ao13, co13, eo13⟩ := Kd.N_slice a3.out
    subst eo13
    go_wp2
    go_ret
    exact ⟨_, by first | rfl | (simp [errW_none, errW_some] <;> rfl) | (simp [*, errW_none, errW_some] <;> rfl), by (with_reducible repeat (first | apply Kd.N_alloc | apply Kd.N_drewN | apply Kd.N_drew)); exact a3.out, by repeat (first | (with_reducible first | exact HB.out | apply below_alloc | apply pw_below_drewN | apply below_drew1) | exact HB.out)⟩
 rw [if_neg c2] at H
 exact absurd H (by simp)

end Go.Proofs.YtamimnaafiphcaaDoor.PR1D

-- Written by gp.py for this claim.
namespace Go.Proofs.YtamimnaafiphcaaDoor.PR1D
open Go.RowKit Go.Proofs.YtamimnaafiphcaaDoorW.PrintWords Go.Proofs.YtamimnaafiphcaaDoorW.PrintLast Go.Proofs.YtamimnaafiphcaaDoorW.PrintMore
attribute [local go_sem] max2_int min2_int max_two min_two max_three min_three max_four min_four   -- for this text's walks alone
set_option linter.unusedVariables false
set_option linter.unusedSimpArgs false

namespace q_switchbackref17_Goes
theorem uZ {p : Prop} (h : p) : Aside0 p := ⟨h⟩
theorem uK {p q : Prop} (h : p) (g : p → q := by intro h; (with_reducible repeat (first | apply blk_drewN | apply blk_drew | apply blk_alloc)); exact h) : q := g h
theorem uB {p q : Prop} (h : p) (g : p → q := by intro h; repeat (first | (with_reducible first | exact h | apply below_alloc | apply pw_below_drewN | apply below_drew1) | exact h)) : q := g h
theorem uC {p q s : Prop} (h : p) (j : s) (g : p → s → q := by intro h j; repeat (first | (with_reducible first | exact h | apply below_alloc | apply pw_below_drewN | apply below_drew1 | refine below_set ?_ j) | exact h)) : q := g h j
theorem zA : type_of% @blk_frozen := @blk_frozen
theorem zB : type_of% @blk_cell := @blk_cell
end q_switchbackref17_Goes
open q_switchbackref17_Goes

/-! ### switchbackref17_Goes: function 27 -/
def switchbackref17_Goes.f (a0_0 : Int) (a0_1 : Int) (a0_2 : Int) (a0_3 : Int) (a0_4 : Int) (a0_5 : Int) (l0_6 : List Int) : Option (Bool) := (switchbackref17_Branch.f a0_0 a0_1 a0_2 a0_3 a0_4 a0_5 l0_6).bind fun t169 => (if t169 = true then (some true) else (if a0_0 = 41 then (some true) else (some (a0_0 == 43))))
set_option maxHeartbeats 8000000 in
set_option maxRecDepth 100000 in
theorem switchbackref17_Goes.calls (a0_0 : Int) (a0_1 : Int) (a0_2 : Int) (a0_3 : Int) (a0_4 : Int) (a0_5 : Int) (A0_6 : Option Addr) (c0_6 : Nat) (l0_6 : List Int) (r : Bool) (w : World) (hr0_6 : Kd.C (Kd.int .i64) w A0_6 l0_6.length l0_6) (hc0_6 : l0_6.length ≤ c0_6) (h : switchbackref17_Goes.f a0_0 a0_1 a0_2 a0_3 a0_4 a0_5 l0_6 = some r) :
    Calls Tryd.prog 27 #[.agg #[.int .i64 a0_0, .int .i64 a0_1, .int .i64 a0_2, .int .i64 a0_3, .int .u32 a0_4, .int .i64 a0_5, .slice A0_6 l0_6.length c0_6]] w fun e w' => e = .returned (.bool r) ∧ Below w.heap.size w w' := by
 have hu40 := Tryd.underlying40
 have HR0_6 := uZ hr0_6
 have HC0_6 := uZ hc0_6
 clear hr0_6 hc0_6
 have HB := uZ (Below.refl w.heap.size w)
 have H : ((switchbackref17_Branch.f a0_0 a0_1 a0_2 a0_3 a0_4 a0_5 l0_6).bind fun t169 => (if t169 = true then (some true) else (if a0_0 = 41 then (some true) else (some (a0_0 == 43))))) = some r := h
 clear h
 replace H := Option.bind_eq_some_iff.mp H
 obtain ⟨t169, A20, H⟩ := H
 replace H : (if t169 = true then (some true) else (if a0_0 = 41 then (some true) else (some (a0_0 == 43)))) = some r := H
 have A2 := uZ A20
 clear A20
 by_cases c3 : t169 = true
 ·subst c3
  have H1 : (some true) = some r := by rw [if_pos rfl] at H; exact H
  clear H
  have H := H1
  clear H1
  obtain rfl := Option.some.inj H
  go_enter Tryd.func27, Tryd.ntmps27
  go_wp2_with (first | ((with_reducible refine gate_dst (N := 1) rfl ?_); refine box_event ?hg (N := 1) ?hd (cs := #[.int .i64 a0_0, .int .i64 a0_1, .int .i64 a0_2, .int .i64 a0_3, .int .u32 a0_4, .int .i64 a0_5, .slice A0_6 l0_6.length c0_6]) (t := 40) ?hr ?_; (case hd => rfl); (case hg => rfl); (case hr => first | (go_simp; done) | (go_simp; rfl)); intro a1 hg w4 hbox hb; have n0_ := uZ (below_step (uB HB.out) hb); have n1_ := uZ (hbox); have n2_ := uZ ((by rw [hg]; exact (below_size (uB HB.out)) : w.heap.size ≤ a1)); have n3_ := uZ ((by rw [hg]; exact (below_size (uB HB.out)) : w.heap.size ≤ a1)); clear HB; have HB := n0_; have a0 := n1_; have GW168 := n2_; have GE168 := n3_; clear n0_ n1_ n2_ n3_; clear hb hbox hg; have hcz5_0 : w4.cell? ⟨a1, 0, none⟩ = some (.int .i64 a0_0) := (zB a0.out 0).trans rfl; have hcz5_1 : w4.cell? ⟨a1, 1, none⟩ = some (.int .i64 a0_1) := (zB a0.out 1).trans rfl; have hcz5_2 : w4.cell? ⟨a1, 2, none⟩ = some (.int .i64 a0_2) := (zB a0.out 2).trans rfl; have hcz5_3 : w4.cell? ⟨a1, 3, none⟩ = some (.int .i64 a0_3) := (zB a0.out 3).trans rfl; have hcz5_4 : w4.cell? ⟨a1, 4, none⟩ = some (.int .u32 a0_4) := (zB a0.out 4).trans rfl; have hcz5_5 : w4.cell? ⟨a1, 5, none⟩ = some (.int .i64 a0_5) := (zB a0.out 5).trans rfl; have hcz5_6 : w4.cell? ⟨a1, 6, none⟩ = some (.slice A0_6 l0_6.length c0_6) := (zB a0.out 6).trans rfl; have hfz5_0 := zA a0.out 0; have hfz5_1 := zA a0.out 1; have hfz5_2 := zA a0.out 2; have hfz5_3 := zA a0.out 3; have hfz5_4 := zA a0.out 4; have hfz5_5 := zA a0.out 5; have hfz5_6 := zA a0.out 6) | ((with_reducible refine gate_callee (f := 31) rfl ?_); refine goesL_ (some 4) rfl rfl Tryd.func31 (by kernel_rfl) rfl #[.agg #[.int .i64 a0_0, .int .i64 a0_1, .int .i64 a0_2, .int .i64 a0_3, .int .u32 a0_4, .int .i64 a0_5, .slice A0_6 l0_6.length c0_6]] rfl (by (try simp only [List.map_toArray, List.map_cons, List.map_nil]); first | done | rfl | (simp only [List.length_drop, List.length_take]; rfl)) ?_; (with_reducible refine (switchbackref17_Branch.calls a0_0 a0_1 a0_2 a0_3 a0_4 a0_5 _ _ l0_6 true _ ?side1 ?side2 A2.out).mono ?_); (case side1 => repeat (first | exact (Kd.C_below HR0_6.out HB.out) | (with_reducible refine Kd.C_alloc ?_ _) | (with_reducible refine Kd.C_drewN ?_ _) | (with_reducible refine Kd.C_drew ?_))); (case side2 => exact HC0_6.out); rintro e w6 ⟨rfl, hb⟩; refine ⟨_, rfl, ?_⟩; have n0_ := uZ (blk_below (g := a1) (o := .cells #[.int .i64 a0_0, .int .i64 a0_1, .int .i64 a0_2, .int .i64 a0_3, .int .u32 a0_4, .int .i64 a0_5, .slice A0_6 l0_6.length c0_6] 40 (0, 0)) (uK a0.out) hb); have n1_ := uZ (below_step (uC HB.out GE168.out) hb); clear a0; clear HB; have a0 := n0_; have HB := n1_; clear n0_ n1_; (try clear hb); (try clear hb2); (try clear hk); (try clear hi)))
  go_ret
  exact ⟨by first | rfl | (simp [errW_none, errW_some] <;> rfl) | (simp [*, errW_none, errW_some] <;> rfl), by repeat (first | (with_reducible first | exact HB.out | apply below_alloc | apply pw_below_drewN | apply below_drew1 | refine below_set ?_ GE168.out) | exact HB.out)⟩
 replace c3 := Bool.eq_false_iff.mpr c3
 subst c3
 have H1 : (if a0_0 = 41 then (some true) else (some (a0_0 == 43))) = some r := by rw [if_neg (show ¬ (false = true) by decide)] at H; exact H
 clear H
 have H := H1
 clear H1
 by_cases c7 : a0_0 = 41
 ·rw [if_pos c7] at H
  have c7b0 : (a0_0 == 41) = true := beq_iff_eq.mpr c7
  have c7b1 : (a0_0 != 41) = false := bne_eq_false_iff_eq.mpr c7
  clear c7
  obtain rfl := Option.some.inj H
  go_enter Tryd.func27, Tryd.ntmps27
  go_wp2_with (first | ((with_reducible refine gate_dst (N := 1) rfl ?_); refine box_event ?hg (N := 1) ?hd (cs := #[.int .i64 a0_0, .int .i64 a0_1, .int .i64 a0_2, .int .i64 a0_3, .int .u32 a0_4, .int .i64 a0_5, .slice A0_6 l0_6.length c0_6]) (t := 40) ?hr ?_; (case hd => rfl); (case hg => rfl); (case hr => first | (go_simp; done) | (go_simp; rfl)); intro a1 hg w8 hbox hb; have n0_ := uZ (below_step (uB HB.out) hb); have n1_ := uZ (hbox); have n2_ := uZ ((by rw [hg]; exact (below_size (uB HB.out)) : w.heap.size ≤ a1)); have n3_ := uZ ((by rw [hg]; exact (below_size (uB HB.out)) : w.heap.size ≤ a1)); clear HB; have HB := n0_; have a0 := n1_; have GW168 := n2_; have GE168 := n3_; clear n0_ n1_ n2_ n3_; clear hb hbox hg; have hcz9_0 : w8.cell? ⟨a1, 0, none⟩ = some (.int .i64 a0_0) := (zB a0.out 0).trans rfl; have hcz9_1 : w8.cell? ⟨a1, 1, none⟩ = some (.int .i64 a0_1) := (zB a0.out 1).trans rfl; have hcz9_2 : w8.cell? ⟨a1, 2, none⟩ = some (.int .i64 a0_2) := (zB a0.out 2).trans rfl; have hcz9_3 : w8.cell? ⟨a1, 3, none⟩ = some (.int .i64 a0_3) := (zB a0.out 3).trans rfl; have hcz9_4 : w8.cell? ⟨a1, 4, none⟩ = some (.int .u32 a0_4) := (zB a0.out 4).trans rfl; have hcz9_5 : w8.cell? ⟨a1, 5, none⟩ = some (.int .i64 a0_5) := (zB a0.out 5).trans rfl; have hcz9_6 : w8.cell? ⟨a1, 6, none⟩ = some (.slice A0_6 l0_6.length c0_6) := (zB a0.out 6).trans rfl; have hfz9_0 := zA a0.out 0; have hfz9_1 := zA a0.out 1; have hfz9_2 := zA a0.out 2; have hfz9_3 := zA a0.out 3; have hfz9_4 := zA a0.out 4; have hfz9_5 := zA a0.out 5; have hfz9_6 := zA a0.out 6) | ((with_reducible refine gate_callee (f := 31) rfl ?_); refine goesL_ (some 4) rfl rfl Tryd.func31 (by kernel_rfl) rfl #[.agg #[.int .i64 a0_0, .int .i64 a0_1, .int .i64 a0_2, .int .i64 a0_3, .int .u32 a0_4, .int .i64 a0_5, .slice A0_6 l0_6.length c0_6]] rfl (by (try simp only [List.map_toArray, List.map_cons, List.map_nil]); first | done | rfl | (simp only [List.length_drop, List.length_take]; rfl)) ?_; (with_reducible refine (switchbackref17_Branch.calls a0_0 a0_1 a0_2 a0_3 a0_4 a0_5 _ _ l0_6 false _ ?side1 ?side2 A2.out).mono ?_); (case side1 => repeat (first | exact (Kd.C_below HR0_6.out HB.out) | (with_reducible refine Kd.C_alloc ?_ _) | (with_reducible refine Kd.C_drewN ?_ _) | (with_reducible refine Kd.C_drew ?_))); (case side2 => exact HC0_6.out); rintro e w10 ⟨rfl, hb⟩; refine ⟨_, rfl, ?_⟩; have n0_ := uZ (blk_below (g := a1) (o := .cells #[.int .i64 a0_0, .int .i64 a0_1, .int .i64 a0_2, .int .i64 a0_3, .int .u32 a0_4, .int .i64 a0_5, .slice A0_6 l0_6.length c0_6] 40 (0, 0)) (uK a0.out) hb); have n1_ := uZ (below_step (uC HB.out GE168.out) hb); clear a0; clear HB; have a0 := n0_; have HB := n1_; clear n0_ n1_; (try clear hb); (try clear hb2); (try clear hk); (try clear hi); have hcz11_0 : w10.cell? ⟨a1, 0, none⟩ = some (.int .i64 a0_0) := (zB a0.out 0).trans rfl; have hcz11_1 : w10.cell? ⟨a1, 1, none⟩ = some (.int .i64 a0_1) := (zB a0.out 1).trans rfl; have hcz11_2 : w10.cell? ⟨a1, 2, none⟩ = some (.int .i64 a0_2) := (zB a0.out 2).trans rfl; have hcz11_3 : w10.cell? ⟨a1, 3, none⟩ = some (.int .i64 a0_3) := (zB a0.out 3).trans rfl; have hcz11_4 : w10.cell? ⟨a1, 4, none⟩ = some (.int .u32 a0_4) := (zB a0.out 4).trans rfl; have hcz11_5 : w10.cell? ⟨a1, 5, none⟩ = some (.int .i64 a0_5) := (zB a0.out 5).trans rfl; have hcz11_6 : w10.cell? ⟨a1, 6, none⟩ = some (.slice A0_6 l0_6.length c0_6) := (zB a0.out 6).trans rfl; have hfz11_0 := zA a0.out 0; have hfz11_1 := zA a0.out 1; have hfz11_2 := zA a0.out 2; have hfz11_3 := zA a0.out 3; have hfz11_4 := zA a0.out 4; have hfz11_5 := zA a0.out 5; have hfz11_6 := zA a0.out 6))
  go_ret
  exact ⟨by first | rfl | (simp [errW_none, errW_some] <;> rfl) | (simp [*, errW_none, errW_some] <;> rfl), by repeat (first | (with_reducible first | exact HB.out | apply below_alloc | apply pw_below_drewN | apply below_drew1 | refine below_set ?_ GE168.out) | exact HB.out)⟩
 rw [if_neg c7] at H
 have c7b0 : (a0_0 == 41) = false := beq_eq_false_iff_ne.mpr c7
 have c7b1 : (a0_0 != 41) = true := bne_iff_ne.mpr c7
 obtain rfl := Option.some.inj H
 go_enter Tryd.func27, Tryd.ntmps27
 go_wp2_with (first | ((with_reducible refine gate_dst (N := 1) rfl ?_); refine box_event ?hg (N := 1) ?hd (cs := #[.int .i64 a0_0, .int .i64 a0_1, .int .i64 a0_2, .int .i64 a0_3, .int .u32 a0_4, .int .i64 a0_5, .slice A0_6 l0_6.length c0_6]) (t := 40) ?hr ?_; (case hd => rfl); (case hg => rfl); (case hr => first | (go_simp; done) | (go_simp; rfl)); intro a1 hg w12 hbox hb; have n0_ := uZ (below_step (uB HB.out) hb); have n1_ := uZ (hbox); have n2_ := uZ ((by rw [hg]; exact (below_size (uB HB.out)) : w.heap.size ≤ a1)); have n3_ := uZ ((by rw [hg]; exact (below_size (uB HB.out)) : w.heap.size ≤ a1)); clear HB; have HB := n0_; have a0 := n1_; have GW168 := n2_; have GE168 := n3_; clear n0_ n1_ n2_ n3_; clear hb hbox hg; have hcz13_0 : w12.cell? ⟨a1, 0, none⟩ = some (.int .i64 a0_0) := (zB a0.out 0).trans rfl; have hcz13_1 : w12.cell? ⟨a1, 1, none⟩ = some (.int .i64 a0_1) := (zB a0.out 1).trans rfl; have hcz13_2 : w12.cell? ⟨a1, 2, none⟩ = some (.int .i64 a0_2) := (zB a0.out 2).trans rfl; have hcz13_3 : w12.cell? ⟨a1, 3, none⟩ = some (.int .i64 a0_3) := (zB a0.out 3).trans rfl; have hcz13_4 : w12.cell? ⟨a1, 4, none⟩ = some (.int .u32 a0_4) := (zB a0.out 4).trans rfl; have hcz13_5 : w12.cell? ⟨a1, 5, none⟩ = some (.int .i64 a0_5) := (zB a0.out 5).trans rfl; have hcz13_6 : w12.cell? ⟨a1, 6, none⟩ = some (.slice A0_6 l0_6.length c0_6) := (zB a0.out 6).trans rfl; have hfz13_0 := zA a0.out 0; have hfz13_1 := zA a0.out 1; have hfz13_2 := zA a0.out 2; have hfz13_3 := zA a0.out 3; have hfz13_4 := zA a0.out 4; have hfz13_5 := zA a0.out 5; have hfz13_6 := zA a0.out 6) | ((with_reducible refine gate_callee (f := 31) rfl ?_); refine goesL_ (some 4) rfl rfl Tryd.func31 (by kernel_rfl) rfl #[.agg #[.int .i64 a0_0, .int .i64 a0_1, .int .i64 a0_2, .int .i64 a0_3, .int .u32 a0_4, .int .i64 a0_5, .slice A0_6 l0_6.length c0_6]] rfl (by (try simp only [List.map_toArray, List.map_cons, List.map_nil]); first | done | rfl | (simp only [List.length_drop, List.length_take]; rfl)) ?_; (with_reducible refine (switchbackref17_Branch.calls a0_0 a0_1 a0_2 a0_3 a0_4 a0_5 _ _ l0_6 false _ ?side1 ?side2 A2.out).mono ?_); (case side1 => repeat (first | exact (Kd.C_below HR0_6.out HB.out) | (with_reducible refine Kd.C_alloc ?_ _) | (with_reducible refine Kd.C_drewN ?_ _) | (with_reducible refine Kd.C_drew ?_))); (case side2 => exact HC0_6.out); rintro e w14 ⟨rfl, hb⟩; refine ⟨_, rfl, ?_⟩; have n0_ := uZ (blk_below (g := a1) (o := .cells #[.int .i64 a0_0, .int .i64 a0_1, .int .i64 a0_2, .int .i64 a0_3, .int .u32 a0_4, .int .i64 a0_5, .slice A0_6 l0_6.length c0_6] 40 (0, 0)) (uK a0.out) hb); have n1_ := uZ (below_step (uC HB.out GE168.out) hb); clear a0; clear HB; have a0 := n0_; have HB := n1_; clear n0_ n1_; (try clear hb); (try clear hb2); (try clear hk); (try clear hi); have hcz15_0 : w14.cell? ⟨a1, 0, none⟩ = some (.int .i64 a0_0) := (zB a0.out 0).trans rfl; have hcz15_1 : w14.cell? ⟨a1, 1, none⟩ = some (.int .i64 a0_1) := (zB a0.out 1).trans rfl; have hcz15_2 : w14.cell? ⟨a1, 2, none⟩ = some (.int .i64 a0_2) := (zB a0.out 2).trans rfl; have hcz15_3 : w14.cell? ⟨a1, 3, none⟩ = some (.int .i64 a0_3) := (zB a0.out 3).trans rfl; have hcz15_4 : w14.cell? ⟨a1, 4, none⟩ = some (.int .u32 a0_4) := (zB a0.out 4).trans rfl; have hcz15_5 : w14.cell? ⟨a1, 5, none⟩ = some (.int .i64 a0_5) := (zB a0.out 5).trans rfl; have hcz15_6 : w14.cell? ⟨a1, 6, none⟩ = some (.slice A0_6 l0_6.length c0_6) := (zB a0.out 6).trans rfl; have hfz15_0 := zA a0.out 0; have hfz15_1 := zA a0.out 1; have hfz15_2 := zA a0.out 2; have hfz15_3 := zA a0.out 3; have hfz15_4 := zA a0.out 4; have hfz15_5 := zA a0.out 5; have hfz15_6 := zA a0.out 6))
 go_ret
 exact ⟨by first | rfl | (simp [errW_none, errW_some] <;> rfl) | (simp [*, errW_none, errW_some] <;> rfl), by repeat (first | (with_reducible first | exact HB.out | apply below_alloc | apply pw_below_drewN | apply below_drew1 | refine below_set ?_ GE168.out) | exact HB.out)⟩

end Go.Proofs.YtamimnaafiphcaaDoor.PR1D

-- Written by gp.py for this claim.
namespace Go.Proofs.YtamimnaafiphcaaDoor.PR1D
open Go.RowKit Go.Proofs.YtamimnaafiphcaaDoorW.PrintWords Go.Proofs.YtamimnaafiphcaaDoorW.PrintLast Go.Proofs.YtamimnaafiphcaaDoorW.PrintMore
attribute [local go_sem] max2_int min2_int max_two min_two max_three min_three max_four min_four   -- for this text's walks alone
set_option linter.unusedVariables false
set_option linter.unusedSimpArgs false

/-! ### switchbackref17_Near: function 32 -/
def switchbackref17_Near.f (a0 : Int) : Option (Bool) := if a0 ≥ (-128) then (some (decide (a0 ≤ 127))) else (some false)
set_option maxHeartbeats 8000000 in
set_option maxRecDepth 100000 in
theorem switchbackref17_Near.calls (a0 : Int) (r : Bool) (w : World) (h : switchbackref17_Near.f a0 = some r) :
    Calls Tryd.prog 32 #[.int .i64 a0] w fun e w' => e = .returned (.bool r) ∧ Drawn0 w w' := by
  have H : (if a0 ≥ (-128) then (some (decide (a0 ≤ 127))) else (some false)) = some r := h
  clear h
  by_cases c2 : a0 ≥ (-128)
  · rw [if_pos c2] at H
    have c2b0 : decide ((-128) ≤ a0) = true := decide_eq_true c2
    clear c2
    obtain rfl := Option.some.inj H
    go_enter Tryd.func32, Tryd.ntmps32
    go_wp2
    go_ret
    exact ⟨by first | rfl | (simp; done) | (simp [*]; done), by repeat (first | exact Drawn0.refl _ | apply Drawn0.step)⟩
  · rw [if_neg c2] at H
    have c2b0 : decide ((-128) ≤ a0) = false := decide_eq_false c2
    clear c2
    obtain rfl := Option.some.inj H
    go_enter Tryd.func32, Tryd.ntmps32
    go_wp2
    go_ret
    exact ⟨by first | rfl | (simp; done) | (simp [*]; done), by repeat (first | exact Drawn0.refl _ | apply Drawn0.step)⟩

end Go.Proofs.YtamimnaafiphcaaDoor.PR1D

-- Written by gp.py for this claim.
namespace Go.Proofs.YtamimnaafiphcaaDoor.PR1D
open Go.RowKit Go.Proofs.YtamimnaafiphcaaDoorW.PrintWords Go.Proofs.YtamimnaafiphcaaDoorW.PrintLast Go.Proofs.YtamimnaafiphcaaDoorW.PrintMore
attribute [local go_sem] max2_int min2_int max_two min_two max_three min_three max_four min_four   -- for this text's walks alone
set_option linter.unusedVariables false
set_option linter.unusedSimpArgs false

/-! ### switchbackref17_Other: function 54 -/
def switchbackref17_Other.f (a0 : Int) : Option (Int) := if a0 = 30 then (some 31) else (if a0 = 31 then (some 30) else (if a0 = 32 then (some 33) else (if a0 = 33 then (some 32) else (if a0 = 34 then (some 35) else (if a0 = 35 then (some 34) else (if a0 = 36 then (some 37) else (if a0 = 37 then (some 36) else (if a0 = 38 then (some 39) else (some 38)))))))))
set_option maxHeartbeats 8000000 in
set_option maxRecDepth 100000 in
theorem switchbackref17_Other.calls (a0 : Int) (r : Int) (w : World) (h : switchbackref17_Other.f a0 = some r) :
    Calls Tryd.prog 54 #[.int .i64 a0] w fun e w' => e = .returned (.int .i64 r) ∧ Drawn0 w w' := by
  have H : (if a0 = 30 then (some 31) else (if a0 = 31 then (some 30) else (if a0 = 32 then (some 33) else (if a0 = 33 then (some 32) else (if a0 = 34 then (some 35) else (if a0 = 35 then (some 34) else (if a0 = 36 then (some 37) else (if a0 = 37 then (some 36) else (if a0 = 38 then (some 39) else (some 38)))))))))) = some r := h
  clear h
  by_cases c2 : a0 = 30
  · rw [if_pos c2] at H
    have c2b0 : (a0 == 30) = true := beq_iff_eq.mpr c2
    have c2b1 : (a0 != 30) = false := bne_eq_false_iff_eq.mpr c2
    clear c2
    obtain rfl := Option.some.inj H
    go_enter Tryd.func54, Tryd.ntmps54
    go_wp2
    go_ret
    exact ⟨by first | rfl | (simp; done) | (simp [*]; done), by repeat (first | exact Drawn0.refl _ | apply Drawn0.step)⟩
  · rw [if_neg c2] at H
    have c2b0 : (a0 == 30) = false := beq_eq_false_iff_ne.mpr c2
    have c2b1 : (a0 != 30) = true := bne_iff_ne.mpr c2
    by_cases c3 : a0 = 31
    · rw [if_pos c3] at H
      have c3b0 : (a0 == 31) = true := beq_iff_eq.mpr c3
      have c3b1 : (a0 != 31) = false := bne_eq_false_iff_eq.mpr c3
      clear c3
      obtain rfl := Option.some.inj H
      go_enter Tryd.func54, Tryd.ntmps54
      go_wp2
      go_ret
      exact ⟨by first | rfl | (simp; done) | (simp [*]; done), by repeat (first | exact Drawn0.refl _ | apply Drawn0.step)⟩
    · rw [if_neg c3] at H
      have c3b0 : (a0 == 31) = false := beq_eq_false_iff_ne.mpr c3
      have c3b1 : (a0 != 31) = true := bne_iff_ne.mpr c3
      by_cases c4 : a0 = 32
      · rw [if_pos c4] at H
        have c4b0 : (a0 == 32) = true := beq_iff_eq.mpr c4
        have c4b1 : (a0 != 32) = false := bne_eq_false_iff_eq.mpr c4
        clear c4
        obtain rfl := Option.some.inj H
        go_enter Tryd.func54, Tryd.ntmps54
        go_wp2
        go_ret
        exact ⟨by first | rfl | (simp; done) | (simp [*]; done), by repeat (first | exact Drawn0.refl _ | apply Drawn0.step)⟩
      · rw [if_neg c4] at H
        have c4b0 : (a0 == 32) = false := beq_eq_false_iff_ne.mpr c4
        have c4b1 : (a0 != 32) = true := bne_iff_ne.mpr c4
        by_cases c5 : a0 = 33
        · rw [if_pos c5] at H
          have c5b0 : (a0 == 33) = true := beq_iff_eq.mpr c5
          have c5b1 : (a0 != 33) = false := bne_eq_false_iff_eq.mpr c5
          clear c5
          obtain rfl := Option.some.inj H
          go_enter Tryd.func54, Tryd.ntmps54
          go_wp2
          go_ret
          exact ⟨by first | rfl | (simp; done) | (simp [*]; done), by repeat (first | exact Drawn0.refl _ | apply Drawn0.step)⟩
        · rw [if_neg c5] at H
          have c5b0 : (a0 == 33) = false := beq_eq_false_iff_ne.mpr c5
          have c5b1 : (a0 != 33) = true := bne_iff_ne.mpr c5
          by_cases c6 : a0 = 34
          · rw [if_pos c6] at H
            have c6b0 : (a0 == 34) = true := beq_iff_eq.mpr c6
            have c6b1 : (a0 != 34) = false := bne_eq_false_iff_eq.mpr c6
            clear c6
            obtain rfl := Option.some.inj H
            go_enter Tryd.func54, Tryd.ntmps54
            go_wp2
            go_ret
            exact ⟨by first | rfl | (simp; done) | (simp [*]; done), by repeat (first | exact Drawn0.refl _ | apply Drawn0.step)⟩
          · rw [if_neg c6] at H
            have c6b0 : (a0 == 34) = false := beq_eq_false_iff_ne.mpr c6
            have c6b1 : (a0 != 34) = true := bne_iff_ne.mpr c6
            by_cases c7 : a0 = 35
            · rw [if_pos c7] at H
              have c7b0 : (a0 == 35) = true := beq_iff_eq.mpr c7
              have c7b1 : (a0 != 35) = false := bne_eq_false_iff_eq.mpr c7
              clear c7
              obtain rfl := Option.some.inj H
              go_enter Tryd.func54, Tryd.ntmps54
              go_wp2
              go_ret
              exact ⟨by first | rfl | (simp; done) | (simp [*]; done), by repeat (first | exact Drawn0.refl _ | apply Drawn0.step)⟩
            · rw [if_neg c7] at H
              have c7b0 : (a0 == 35) = false := beq_eq_false_iff_ne.mpr c7
              have c7b1 : (a0 != 35) = true := bne_iff_ne.mpr c7
              by_cases c8 : a0 = 36
              · rw [if_pos c8] at H
                have c8b0 : (a0 == 36) = true := beq_iff_eq.mpr c8
                have c8b1 : (a0 != 36) = false := bne_eq_false_iff_eq.mpr c8
                clear c8
                obtain rfl := Option.some.inj H
                go_enter Tryd.func54, Tryd.ntmps54
                go_wp2
                go_ret
                exact ⟨by first | rfl | (simp; done) | (simp [*]; done), by repeat (first | exact Drawn0.refl _ | apply Drawn0.step)⟩
              · rw [if_neg c8] at H
                have c8b0 : (a0 == 36) = false := beq_eq_false_iff_ne.mpr c8
                have c8b1 : (a0 != 36) = true := bne_iff_ne.mpr c8
                by_cases c9 : a0 = 37
                · rw [if_pos c9] at H
                  have c9b0 : (a0 == 37) = true := beq_iff_eq.mpr c9
                  have c9b1 : (a0 != 37) = false := bne_eq_false_iff_eq.mpr c9
                  clear c9
                  obtain rfl := Option.some.inj H
                  go_enter Tryd.func54, Tryd.ntmps54
                  go_wp2
                  go_ret
                  exact ⟨by first | rfl | (simp; done) | (simp [*]; done), by repeat (first | exact Drawn0.refl _ | apply Drawn0.step)⟩
                · rw [if_neg c9] at H
                  have c9b0 : (a0 == 37) = false := beq_eq_false_iff_ne.mpr c9
                  have c9b1 : (a0 != 37) = true := bne_iff_ne.mpr c9
                  by_cases c10 : a0 = 38
                  · rw [if_pos c10] at H
                    have c10b0 : (a0 == 38) = true := beq_iff_eq.mpr c10
                    have c10b1 : (a0 != 38) = false := bne_eq_false_iff_eq.mpr c10
                    clear c10
                    obtain rfl := Option.some.inj H
                    go_enter Tryd.func54, Tryd.ntmps54
                    go_wp2
                    go_ret
                    exact ⟨by first | rfl | (simp; done) | (simp [*]; done), by repeat (first | exact Drawn0.refl _ | apply Drawn0.step)⟩
                  · rw [if_neg c10] at H
                    have c10b0 : (a0 == 38) = false := beq_eq_false_iff_ne.mpr c10
                    have c10b1 : (a0 != 38) = true := bne_iff_ne.mpr c10
                    obtain rfl := Option.some.inj H
                    go_enter Tryd.func54, Tryd.ntmps54
                    go_wp2
                    go_ret
                    exact ⟨by first | rfl | (simp; done) | (simp [*]; done), by repeat (first | exact Drawn0.refl _ | apply Drawn0.step)⟩

end Go.Proofs.YtamimnaafiphcaaDoor.PR1D
