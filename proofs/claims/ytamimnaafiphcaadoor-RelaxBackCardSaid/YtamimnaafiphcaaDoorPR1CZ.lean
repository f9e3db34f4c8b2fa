/- Texts joined: PR1Cx0 PR1Cx21 PR1Cx23 PR1Cx24 PR1Cx25 PR1Cx27 PR1Cx28 PR1Cx29. -/
import Derived.Test.YtamimnaafiphcaaDoorProg
import Derived.Below
import Derived.Deep.Draws
import Derived.Deep.AppendLies
import Derived.Maps.AppendAt
import Derived.OwnWalk
import Derived.Laws.BytesArg
import Derived.Laws.MakeOwn
import Derived.Laws.OwnMore
import Derived.Deep.OwnRows
import Derived.Tactics
import Derived.Lib.ConvBytes
import Derived.Laws.Slices
import Derived.WalkKit
import Derived.KernelRfl
import Derived.RowKit3
import Derived.Deep.LoopGhost
import Derived.Deep.QuietTactic
import Derived.BigQuiet
import Derived.WideLaws
import Derived.Deep.DeepCutAuto
import Derived.Deep.CutBlock
import Derived.Deep.RegionHeld3
import Derived.Laws.Rows
import Derived.Lib.AppendStr
import Derived.ArgAppend
import Derived.Laws.IdiomCopy
import Derived.OrdersHeld
import Derived.Laws.BitsLemmas
import Derived.RowKit
import Derived.Test.YtamimnaafiphcaaDoorWWords
import Derived.Test.YtamimnaafiphcaaDoorWLast
import Derived.Test.YtamimnaafiphcaaDoorWTab
import Derived.Test.YtamimnaafiphcaaDoorWFour
import Derived.Test.YtamimnaafiphcaaDoorWQPut
import Derived.Test.YtamimnaafiphcaaDoorWApart
import Derived.Test.YtamimnaafiphcaaDoorWArr
import Derived.Test.YtamimnaafiphcaaDoorWZeros
import Derived.Test.YtamimnaafiphcaaDoorWFoot
import Derived.Test.YtamimnaafiphcaaDoorWKept
import Derived.Test.YtamimnaafiphcaaDoorWShare
import Derived.Test.YtamimnaafiphcaaDoorWN
import Derived.Test.YtamimnaafiphcaaDoorWFootNe
import Derived.Test.YtamimnaafiphcaaDoorWAt
import Derived.Test.YtamimnaafiphcaaDoorWEqStruct
import Derived.Test.YtamimnaafiphcaaDoorWRepsOne
import Derived.Test.YtamimnaafiphcaaDoorWInv
import Derived.Test.YtamimnaafiphcaaDoorWInvWords
import Derived.Test.YtamimnaafiphcaaDoorWGuard
import Derived.Test.YtamimnaafiphcaaDoorWNEv
import Derived.Test.YtamimnaafiphcaaDoorWMore
import Derived.Test.YtamimnaafiphcaaDoorRxZ3
import Derived.Test.YtamimnaafiphcaaDoorEncD
-- Written by gp.py for this claim.
namespace Go.Proofs.YtamimnaafiphcaaDoor.PR1C
open Go.RowKit Go.Proofs.YtamimnaafiphcaaDoorW.PrintWords Go.Proofs.YtamimnaafiphcaaDoorW.PrintLast Go.Proofs.YtamimnaafiphcaaDoorW.PrintMore
attribute [local go_sem] max2_int min2_int max_two min_two max_three min_three max_four min_four   -- for this text's walks alone
set_option linter.unusedVariables false
set_option linter.unusedSimpArgs false



def errW : Option Int → Value
  | none => .nilIface
  | some c => .iface 0 (.int .i64 c)
theorem errW_none : errW none = .nilIface := rfl
theorem errW_some (c : Int) : errW (some c) = .iface 0 (.int .i64 c) := rfl

theorem info3 : (Tryd.prog.info? 3).map (fun i => (i.zero, i.size, i.bytes)) = some (some (.int .i64 0), 1, 8) := by kernel_rfl
theorem info4 : (Tryd.prog.info? 4).map (fun i => (i.zero, i.size, i.bytes)) = some (some (.bool false), 1, 1) := by kernel_rfl
theorem info38 : (Tryd.prog.info? 38).map (fun i => (i.zero, i.size, i.bytes)) = some (some (.int .u32 0), 1, 4) := by kernel_rfl
theorem info40 : (Tryd.prog.info? 40).map (fun i => (i.zero, i.size, i.bytes)) = some (some (.agg #[(.int .i64 0), (.int .i64 0), (.int .i64 0), (.int .i64 0), (.int .u32 0), (.int .i64 0), (.slice none 0 0)]), 7, 72) := by kernel_rfl
-- the values' own types
def rd_L2 (xs : List (List Int)) (i : Int) : (List Int) := xs.getD i.toNat ([] : List Int)
theorem at_L2 {w : World} {A : Option Addr} {n : Nat} {xs : List (List Int)} (h : Kd.C (Kd.slice 3 (Kd.int .i64)) w A n xs) (i : Int) (h0 : 0 ≤ i) (h1 : i < n) : ∃ ad A0 c0, A = some ad ∧ w.cell? (ad.add i.toNat) = some (.slice A0 (rd_L2 xs i).length c0) ∧ (rd_L2 xs i).length ≤ c0 ∧ (Kd.int .i64).C w A0 (rd_L2 xs i).length (rd_L2 xs i) := by
  obtain ⟨ad, c, e, _, hK, hc0⟩ := Kd.C_get h ([] : List Int) i h0 h1
  have hc : ∀ j u, c[j]? = some u → w.cell? (ad.add (i.toNat * 1 + j)) = some u := hc0
  obtain ⟨A0, c0, rfl, l0, g0⟩ := hK
  exact ⟨ad, A0, c0, e, by have hq := hc 0 _ rfl; rwa [Nat.mul_one, Nat.add_zero] at hq, l0, g0⟩

/-! #### struct type 40 -/
structure S40 where
  f0 : Int
  f1 : Int
  f2 : Int
  f3 : Int
  f4 : Int
  f5 : Int
  f6 : (List Int)
def z40 : S40 := ⟨(0 : Int), (0 : Int), (0 : Int), (0 : Int), (0 : Int), (0 : Int), ([] : List Int)⟩
def k40 : Kd S40 := Kd.iso (Kd.pair (Kd.int .i64) (Kd.pair (Kd.int .i64) (Kd.pair (Kd.int .i64) (Kd.pair (Kd.int .i64) (Kd.pair (Kd.int .u32) (Kd.pair (Kd.int .i64) (Kd.slice 3 (Kd.int .i64)))))))) (fun x : S40 => (x.f0, x.f1, x.f2, x.f3, x.f4, x.f5, x.f6))
theorem k40_heap : Kd.Heap k40 := Kd.heap_iso _ (Kd.heap_pair (Kd.heap_int .i64) (Kd.heap_pair (Kd.heap_int .i64) (Kd.heap_pair (Kd.heap_int .i64) (Kd.heap_pair (Kd.heap_int .i64) (Kd.heap_pair (Kd.heap_int .u32) (Kd.heap_pair (Kd.heap_int .i64) (Kd.heap_slice 3 (Kd.heap_int .i64))))))))
theorem k40_open {w : World} {x : S40} {cs : List Value} (h : k40.K w x cs) : ∃ A6 c6, cs = [.int .i64 x.f0, .int .i64 x.f1, .int .i64 x.f2, .int .i64 x.f3, .int .u32 x.f4, .int .i64 x.f5, .slice A6 x.f6.length c6] ∧ x.f6.length ≤ c6 ∧ (Kd.int .i64).C w A6 x.f6.length x.f6 := by
  obtain ⟨_, _, rfl, rfl, ⟨_, _, rfl, rfl, ⟨_, _, rfl, rfl, ⟨_, _, rfl, rfl, ⟨_, _, rfl, rfl, ⟨_, _, rfl, rfl, ⟨A6, c6, rfl, l6, g6⟩⟩⟩⟩⟩⟩⟩ := h
  exact ⟨A6, c6, rfl, l6, g6⟩
theorem k40_openM {w : World} {base : Nat} {ok : Nat → Prop} {x : S40} {cs : List Value} (h : k40.M w base ok x cs) : ∃ v6, cs = [.int .i64 x.f0, .int .i64 x.f1, .int .i64 x.f2, .int .i64 x.f3, .int .u32 x.f4, .int .i64 x.f5, v6] ∧ (Kd.int .i64).R 3 w base ok v6 x.f6 := by
  obtain ⟨_, _, rfl, rfl, ⟨_, _, rfl, rfl, ⟨_, _, rfl, rfl, ⟨_, _, rfl, rfl, ⟨_, _, rfl, rfl, ⟨_, _, rfl, rfl, ⟨v6, rfl, g6⟩⟩⟩⟩⟩⟩⟩ := h
  exact ⟨v6, rfl, g6⟩
theorem k40_mk (w : World) (x : S40) {A6 : Option Addr} {c6 : Nat} (l6 : x.f6.length ≤ c6) (g6 : (Kd.int .i64).C w A6 x.f6.length x.f6) : k40.K w x [.int .i64 x.f0, .int .i64 x.f1, .int .i64 x.f2, .int .i64 x.f3, .int .u32 x.f4, .int .i64 x.f5, .slice A6 x.f6.length c6] := ⟨[.int .i64 x.f0], [.int .i64 x.f1, .int .i64 x.f2, .int .i64 x.f3, .int .u32 x.f4, .int .i64 x.f5, .slice A6 x.f6.length c6], rfl, rfl, ⟨[.int .i64 x.f1], [.int .i64 x.f2, .int .i64 x.f3, .int .u32 x.f4, .int .i64 x.f5, .slice A6 x.f6.length c6], rfl, rfl, ⟨[.int .i64 x.f2], [.int .i64 x.f3, .int .u32 x.f4, .int .i64 x.f5, .slice A6 x.f6.length c6], rfl, rfl, ⟨[.int .i64 x.f3], [.int .u32 x.f4, .int .i64 x.f5, .slice A6 x.f6.length c6], rfl, rfl, ⟨[.int .u32 x.f4], [.int .i64 x.f5, .slice A6 x.f6.length c6], rfl, rfl, ⟨[.int .i64 x.f5], [.slice A6 x.f6.length c6], rfl, rfl, ⟨A6, c6, rfl, l6, g6⟩⟩⟩⟩⟩⟩⟩
theorem k40_mkM (w : World) (base : Nat) (ok : Nat → Prop) (x : S40) {v6 : Value} (g6 : (Kd.int .i64).R 3 w base ok v6 x.f6) : k40.M w base ok x [.int .i64 x.f0, .int .i64 x.f1, .int .i64 x.f2, .int .i64 x.f3, .int .u32 x.f4, .int .i64 x.f5, v6] := ⟨[.int .i64 x.f0], [.int .i64 x.f1, .int .i64 x.f2, .int .i64 x.f3, .int .u32 x.f4, .int .i64 x.f5, v6], rfl, rfl, ⟨[.int .i64 x.f1], [.int .i64 x.f2, .int .i64 x.f3, .int .u32 x.f4, .int .i64 x.f5, v6], rfl, rfl, ⟨[.int .i64 x.f2], [.int .i64 x.f3, .int .u32 x.f4, .int .i64 x.f5, v6], rfl, rfl, ⟨[.int .i64 x.f3], [.int .u32 x.f4, .int .i64 x.f5, v6], rfl, rfl, ⟨[.int .u32 x.f4], [.int .i64 x.f5, v6], rfl, rfl, ⟨[.int .i64 x.f5], [v6], rfl, rfl, ⟨v6, rfl, g6⟩⟩⟩⟩⟩⟩⟩
theorem k40_openF {W : World} {ok : Nat → Prop} {x : S40} {cs : List Value} (h : Kd.FK k40 W ok x cs) : ∃ A6 c6, cs = [.int .i64 x.f0, .int .i64 x.f1, .int .i64 x.f2, .int .i64 x.f3, .int .u32 x.f4, .int .i64 x.f5, .slice A6 x.f6.length c6] ∧ x.f6.length ≤ c6 ∧ Kd.F (Kd.int .i64) W ok A6 x.f6.length x.f6 := by
  obtain ⟨A6, c6, rfl, l6, _⟩ := k40_open (Kd.FK_now h)
  exact ⟨A6, c6, rfl, l6, (fun W' hW => by obtain ⟨A6_, c6_, he, l6_, g6_⟩ := k40_open (h W' hW); injection (Option.some.inj (show some (Value.slice A6 x.f6.length c6) = some (Value.slice A6_ x.f6.length c6_) from congrArg (fun l => l[6]?) he)) with ha_ _ _; rw [ha_]; exact g6_)⟩
theorem k40_mkF (W : World) (ok : Nat → Prop) (x : S40) {A6 : Option Addr} {c6 : Nat} (l6 : x.f6.length ≤ c6) (g6 : Kd.F (Kd.int .i64) W ok A6 x.f6.length x.f6) : Kd.FK k40 W ok x [.int .i64 x.f0, .int .i64 x.f1, .int .i64 x.f2, .int .i64 x.f3, .int .u32 x.f4, .int .i64 x.f5, .slice A6 x.f6.length c6] := fun W2 hW => k40_mk W2 x l6 (g6 W2 hW)
def rd_T40 (xs : List S40) (i : Int) : S40 := xs.getD i.toNat z40
theorem at_T40 {w : World} {A : Option Addr} {n : Nat} {xs : List S40} (h : Kd.C k40 w A n xs) (i : Int) (h0 : 0 ≤ i) (h1 : i < n) : ∃ ad A6 c6, A = some ad ∧ w.cell? (ad.add (i.toNat * 7)) = some (.int .i64 (rd_T40 xs i).f0) ∧ w.cell? ⟨(ad.add (i.toNat * 7)).block, (ad.add (i.toNat * 7)).off + 1, none⟩ = some (.int .i64 (rd_T40 xs i).f1) ∧ w.cell? ⟨(ad.add (i.toNat * 7)).block, (ad.add (i.toNat * 7)).off + 2, none⟩ = some (.int .i64 (rd_T40 xs i).f2) ∧ w.cell? ⟨(ad.add (i.toNat * 7)).block, (ad.add (i.toNat * 7)).off + 3, none⟩ = some (.int .i64 (rd_T40 xs i).f3) ∧ w.cell? ⟨(ad.add (i.toNat * 7)).block, (ad.add (i.toNat * 7)).off + 4, none⟩ = some (.int .u32 (rd_T40 xs i).f4) ∧ w.cell? ⟨(ad.add (i.toNat * 7)).block, (ad.add (i.toNat * 7)).off + 5, none⟩ = some (.int .i64 (rd_T40 xs i).f5) ∧ w.cell? ⟨(ad.add (i.toNat * 7)).block, (ad.add (i.toNat * 7)).off + 6, none⟩ = some (.slice A6 (rd_T40 xs i).f6.length c6) ∧ (rd_T40 xs i).f6.length ≤ c6 ∧ (Kd.int .i64).C w A6 (rd_T40 xs i).f6.length (rd_T40 xs i).f6 := by
  obtain ⟨ad, c, e, _, hK, hc0⟩ := Kd.C_get h z40 i h0 h1
  have hc : ∀ j u, c[j]? = some u → w.cell? (ad.add (i.toNat * 7 + j)) = some u := hc0
  obtain ⟨A6, c6, rfl, l6, g6⟩ := k40_open hK
  exact ⟨ad, A6, c6, e, hc 0 _ rfl, by rw [← add_field _ _ 1 (by omega)]; exact hc 1 _ rfl, by rw [← add_field _ _ 2 (by omega)]; exact hc 2 _ rfl, by rw [← add_field _ _ 3 (by omega)]; exact hc 3 _ rfl, by rw [← add_field _ _ 4 (by omega)]; exact hc 4 _ rfl, by rw [← add_field _ _ 5 (by omega)]; exact hc 5 _ rfl, by rw [← add_field _ _ 6 (by omega)]; exact hc 6 _ rfl, l6, g6⟩

end Go.Proofs.YtamimnaafiphcaaDoor.PR1C

namespace Go.Proofs.YtamimnaafiphcaaDoor.PR1C
open Go.RowKit Go.Proofs.YtamimnaafiphcaaDoorW.PrintWords Go.Proofs.YtamimnaafiphcaaDoorW.PrintLast Go.Proofs.YtamimnaafiphcaaDoorW.PrintMore

/-! ### relax_Assemble: function 19 -/
def toLine (x : S40) : Line := ⟨x.f0, x.f1, x.f2, x.f3, x.f4, x.f5, x.f6⟩

theorem lines_of {w : World} {A : Option Addr} {c : Nat} {l : List S40} (h : Kd.C k40 w A l.length l) : Lines w (.slice A l.length c) (l.map toLine) := by
  refine ⟨A, c, by rw [List.length_map], ?_⟩
  obtain ⟨h1, h2, h3⟩ := h
  refine ⟨by simp, by simpa using h2, fun hp => ?_⟩
  obtain ⟨ad, e, hc⟩ := h3 (by simpa using hp)
  refine ⟨ad, e, fun i p hi => ?_⟩
  rw [List.getElem?_map, Option.map_eq_some_iff] at hi
  obtain ⟨x, hx, rfl⟩ := hi
  obtain ⟨cs, e1, e2, e3⟩ := hc i x hx
  exact ⟨cs, e1, e2, e3⟩

def wfS (l : List S40) : Bool := l.all fun x => (Lit.int .i64 x.f5).wf && x.f6.all fun y => (Lit.int .i64 y).wf

theorem wfS_all {l : List S40} (h : wfS l = true) : ∀ m ∈ l.map toLine, (Lit.int .i64 m.label).wf = true ∧ ∀ x ∈ m.list, (Lit.int .i64 x).wf = true := by
  intro m hm
  obtain ⟨x, hx, rfl⟩ := List.mem_map.1 hm
  have := List.all_eq_true.1 h x hx
  rw [Bool.and_eq_true] at this
  exact ⟨this.1, fun y hy => List.all_eq_true.1 this.2 y hy⟩

theorem reps_ints (k : IntKind) (xs : List Int) : Reps (fun x cs => cs = [Value.int k x]) 1 xs (xs.map (Value.int k)) := by
  refine ⟨by simp, fun j p h => ?_⟩
  have hj := (List.getElem?_eq_some_iff.1 h).1
  show ((xs.map (Value.int k)).drop (j * 1)).take 1 = [Value.int k p]
  rw [Nat.mul_one, List.drop_eq_getElem_cons (by simpa using hj), List.take_succ_cons, List.take_zero, List.getElem_map]
  rw [List.getElem?_eq_getElem hj] at h
  rw [Option.some.inj h]

theorem rint {k : IntKind} {e : Nat} {w : World} {base : Nat} {ok : Nat → Prop} {v : Value} {xs : List Int} (h : w.ownsRow base e 1 v xs.length (xs.map (Value.int k))) (hk : ∀ g, v.ownBlock = some g → ok g) : Kd.R (Kd.int k) e w base ok v xs :=
  ⟨hk, _, h, reps_ints k xs⟩

def relax_Assemble.f (l0 : List S40) : Option (List Int × List Int × List Int × Int × Int × Int) :=
  if wfS l0 = true then some ((asm (l0.map toLine)).words, (asm (l0.map toLine)).kinds, (asm (l0.map toLine)).places, ((asm (l0.map toLine)).rounds : Int), ((asm (l0.map toLine)).line : Int), (asm (l0.map toLine)).err) else none

theorem relax_Assemble.calls (A0 : Option Addr) (c0 : Nat) (l0 : List (S40)) (r1 : List Int) (r2 : List Int) (r3 : List Int) (r4 : Int) (r5 : Int) (r6 : Int) (w : World) (hr0 : Kd.C k40 w A0 l0.length l0) (_hc0 : l0.length ≤ c0) (hLaid_ : Aside0 (Laid w)) (h : relax_Assemble.f l0 = some (r1, r2, r3, r4, r5, r6)) :
    Calls Tryd.prog 19 #[.slice A0 l0.length c0] w fun e w' => ∃ v0_ v1_ v2_ : Value, e = .returned (.tuple #[.agg #[v0_, v1_, v2_, .int .i64 r4], .int .i64 r5, .int .i64 r6]) ∧ Kd.R (Kd.int .u32) 38 w' w.heap.size (fun _ => True) v0_ r1 ∧ Kd.R (Kd.int .i64) 3 w' w.heap.size (fun k_ => some k_ ≠ (v2_ : Value).ownBlock) v1_ r2 ∧ Kd.R (Kd.int .i64) 3 w' w.heap.size (fun k_ => some k_ ≠ (v1_ : Value).ownBlock) v2_ r3 ∧ Below w.heap.size w w' := by
  unfold relax_Assemble.f at h
  by_cases hw : wfS l0 = true
  · rw [if_pos hw] at h
    simp only [Option.some.injEq, Prod.mk.injEq] at h
    obtain ⟨rfl, rfl, rfl, rfl, rfl, rfl⟩ := h
    refine (asm_any (l0.map toLine) _ w hLaid_.out (lines_of hr0) (wfS_all hw)).mono ?_
    rintro e w' ⟨wv, kv, pv, rfl, hat, hb⟩
    exact ⟨wv, kv, pv, rfl, rint hat.ow (fun _ _ => trivial), rint hat.ok (fun g hg e => hat.ne g hg e.symm), rint hat.op (fun g hg e => hat.ne g e.symm hg), hb⟩
  · rw [if_neg hw] at h
    cases h

end Go.Proofs.YtamimnaafiphcaaDoor.PR1C

set_option linter.unusedVariables false
namespace Go.Proofs.YtamimnaafiphcaaDoor.PR1C
open Go.RowKit Go.Proofs.YtamimnaafiphcaaDoorW.PrintWords Go.Proofs.YtamimnaafiphcaaDoorW.PrintLast Go.Proofs.YtamimnaafiphcaaDoorW.PrintMore

/-! ### switchbacklaw17_live: function 21 -/
def switchbacklaw17_live.f : Option Bool := some true

theorem switchbacklaw17_live.calls (r : Bool) (w : World) (hLaid_ : Aside0 (Laid w)) (h : switchbacklaw17_live.f = some r) :
    Calls Tryd.prog 21 #[] w fun e w' => e = .returned (.bool r) ∧ Below w.heap.size w w' := by
  simp only [switchbacklaw17_live.f, Option.some.injEq] at h
  subst h
  exact live_any w hLaid_.out

end Go.Proofs.YtamimnaafiphcaaDoor.PR1C

-- Written by gp.py for this claim.
namespace Go.Proofs.YtamimnaafiphcaaDoor.PR1C
open Go.RowKit Go.Proofs.YtamimnaafiphcaaDoorW.PrintWords Go.Proofs.YtamimnaafiphcaaDoorW.PrintLast Go.Proofs.YtamimnaafiphcaaDoorW.PrintMore
attribute [local go_sem] max2_int min2_int max_two min_two max_three min_three max_four min_four   -- for this text's walks alone
set_option linter.unusedVariables false
set_option linter.unusedSimpArgs false

/-! ### switchbackref16_Branch: function 51 -/
def switchbackref16_Branch.f (a0 : Int) : Option (Bool) := if a0 ≥ 30 then (some (decide (a0 ≤ 39))) else (some false)
set_option maxHeartbeats 8000000 in
set_option maxRecDepth 100000 in
theorem switchbackref16_Branch.calls (a0 : Int) (r : Bool) (w : World) (h : switchbackref16_Branch.f a0 = some r) :
    Calls Tryd.prog 51 #[.int .i64 a0] w fun e w' => e = .returned (.bool r) ∧ Drawn0 w w' := by
  have H : (if a0 ≥ 30 then (some (decide (a0 ≤ 39))) else (some false)) = some r := h
  clear h
  by_cases c2 : a0 ≥ 30
  · rw [if_pos c2] at H
    have c2b0 : decide (30 ≤ a0) = true := decide_eq_true c2
    clear c2
    obtain rfl := Option.some.inj H
    go_enter Tryd.func51, Tryd.ntmps51
    go_wp2
    go_ret
    exact ⟨by first | rfl | (simp; done) | (simp [*]; done), by repeat (first | exact Drawn0.refl _ | apply Drawn0.step)⟩
  · rw [if_neg c2] at H
    have c2b0 : decide (30 ≤ a0) = false := decide_eq_false c2
    clear c2
    obtain rfl := Option.some.inj H
    go_enter Tryd.func51, Tryd.ntmps51
    go_wp2
    go_ret
    exact ⟨by first | rfl | (simp; done) | (simp [*]; done), by repeat (first | exact Drawn0.refl _ | apply Drawn0.step)⟩

end Go.Proofs.YtamimnaafiphcaaDoor.PR1C

-- Written by gp.py for this claim.
namespace Go.Proofs.YtamimnaafiphcaaDoor.PR1C
open Go.RowKit Go.Proofs.YtamimnaafiphcaaDoorW.PrintWords Go.Proofs.YtamimnaafiphcaaDoorW.PrintLast Go.Proofs.YtamimnaafiphcaaDoorW.PrintMore
attribute [local go_sem] max2_int min2_int max_two min_two max_three min_three max_four min_four   -- for this text's walks alone
set_option linter.unusedVariables false
set_option linter.unusedSimpArgs false

/-! ### switchbackref17_Branch: function 31 -/
def switchbackref17_Branch.f (a0_0 : Int) (a0_1 : Int) (a0_2 : Int) (a0_3 : Int) (a0_4 : Int) (a0_5 : Int) (l0_6 : List Int) : Option (Bool) := (switchbackref16_Branch.f a0_0).bind fun t153 => (if t153 = true then (some true) else (some (a0_0 == 40)))
set_option maxHeartbeats 8000000 in
set_option maxRecDepth 100000 in
theorem switchbackref17_Branch.calls (a0_0 : Int) (a0_1 : Int) (a0_2 : Int) (a0_3 : Int) (a0_4 : Int) (a0_5 : Int) (A0_6 : Option Addr) (c0_6 : Nat) (l0_6 : List Int) (r : Bool) (w : World) (hr0_6 : Kd.C (Kd.int .i64) w A0_6 l0_6.length l0_6) (hc0_6 : l0_6.length ≤ c0_6) (h : switchbackref17_Branch.f a0_0 a0_1 a0_2 a0_3 a0_4 a0_5 l0_6 = some r) :
    Calls Tryd.prog 31 #[.agg #[.int .i64 a0_0, .int .i64 a0_1, .int .i64 a0_2, .int .i64 a0_3, .int .u32 a0_4, .int .i64 a0_5, .slice A0_6 l0_6.length c0_6]] w fun e w' => e = .returned (.bool r) ∧ Below w.heap.size w w' := by
  have hu40 := Tryd.underlying40
  have HR0_6 := Aside0.mk hr0_6
  have HC0_6 := Aside0.mk hc0_6
  clear hr0_6 hc0_6
  have HB := Aside0.mk (Below.refl w.heap.size w)
  have H : ((switchbackref16_Branch.f a0_0).bind fun t153 => (if t153 = true then (some true) else (some (a0_0 == 40)))) = some r := h
  clear h
  replace H := Option.bind_eq_some_iff.mp H
  obtain ⟨t153, A20, H⟩ := H
  replace H : (if t153 = true then (some true) else (some (a0_0 == 40))) = some r := H
  have A2 := Aside0.mk A20
  clear A20
  by_cases c3 : t153 = true
  · subst c3
    have H1 : (some true) = some r := by rw [if_pos rfl] at H; exact H
    clear H
    have H := H1
    clear H1
    obtain rfl := Option.some.inj H
    go_enter Tryd.func31, Tryd.ntmps31
    go_wp2_with (first | ((with_reducible refine gate_dst (N := 1) rfl ?_); refine box_event ?hg (N := 1) ?hd (cs := #[.int .i64 a0_0, .int .i64 a0_1, .int .i64 a0_2, .int .i64 a0_3, .int .u32 a0_4, .int .i64 a0_5, .slice A0_6 l0_6.length c0_6]) (t := 40) ?hr ?_; (case hd => rfl); (case hg => rfl); (case hr => first | (go_simp; done) | (go_simp; rfl)); intro gb152 hg w4 hbox hb; have n0_ := Aside0.mk (below_step (by repeat (first | (with_reducible first | exact HB.out | apply below_alloc | apply pw_below_drewN | apply below_drew1) | exact HB.out)) hb); have n1_ := Aside0.mk (hbox); have n2_ := Aside0.mk ((by rw [hg]; exact (below_size (by repeat (first | (with_reducible first | exact HB.out | apply below_alloc | apply pw_below_drewN | apply below_drew1) | exact HB.out))) : w.heap.size ≤ gb152)); have n3_ := Aside0.mk ((by rw [hg]; exact (below_size (by repeat (first | (with_reducible first | exact HB.out | apply below_alloc | apply pw_below_drewN | apply below_drew1) | exact HB.out))) : w.heap.size ≤ gb152)); clear HB; have HB := n0_; have BK152 := n1_; have GW152 := n2_; have GE152 := n3_; clear n0_ n1_ n2_ n3_; clear hb hbox hg; have hcz5_0 : w4.cell? ⟨gb152, 0, none⟩ = some (.int .i64 a0_0) := (blk_cell BK152.out 0).trans rfl; have hcz5_1 : w4.cell? ⟨gb152, 1, none⟩ = some (.int .i64 a0_1) := (blk_cell BK152.out 1).trans rfl; have hcz5_2 : w4.cell? ⟨gb152, 2, none⟩ = some (.int .i64 a0_2) := (blk_cell BK152.out 2).trans rfl; have hcz5_3 : w4.cell? ⟨gb152, 3, none⟩ = some (.int .i64 a0_3) := (blk_cell BK152.out 3).trans rfl; have hcz5_4 : w4.cell? ⟨gb152, 4, none⟩ = some (.int .u32 a0_4) := (blk_cell BK152.out 4).trans rfl; have hcz5_5 : w4.cell? ⟨gb152, 5, none⟩ = some (.int .i64 a0_5) := (blk_cell BK152.out 5).trans rfl; have hcz5_6 : w4.cell? ⟨gb152, 6, none⟩ = some (.slice A0_6 l0_6.length c0_6) := (blk_cell BK152.out 6).trans rfl; have hfz5_0 := blk_frozen BK152.out 0; have hfz5_1 := blk_frozen BK152.out 1; have hfz5_2 := blk_frozen BK152.out 2; have hfz5_3 := blk_frozen BK152.out 3; have hfz5_4 := blk_frozen BK152.out 4; have hfz5_5 := blk_frozen BK152.out 5; have hfz5_6 := blk_frozen BK152.out 6) | ((with_reducible refine gate_callee (f := 51) rfl ?_); refine goesL_ (some 5) rfl rfl Tryd.func51 (by kernel_rfl) rfl #[.int .i64 a0_0] rfl (by (try simp only [List.map_toArray, List.map_cons, List.map_nil]); first | done | rfl | (simp only [List.length_drop, List.length_take]; rfl)) ?_; (with_reducible refine (switchbackref16_Branch.calls a0_0 true _ A2.out).mono ?_); rintro e w' ⟨rfl, ⟨nd, rfl⟩⟩; refine ⟨_, rfl, ?_⟩))
    go_ret
    exact ⟨by first | rfl | (simp [errW_none, errW_some] <;> rfl) | (simp [*, errW_none, errW_some] <;> rfl), by repeat (first | (with_reducible first | exact HB.out | apply below_alloc | apply pw_below_drewN | apply below_drew1 | refine below_set ?_ GE152.out) | exact HB.out)⟩
  · replace c3 := Bool.eq_false_iff.mpr c3
    subst c3
    have H1 : (some (a0_0 == 40)) = some r := by rw [if_neg (show ¬ (false = true) by decide)] at H; exact H
    clear H
    have H := H1
    clear H1
    obtain rfl := Option.some.inj H
    go_enter Tryd.func31, Tryd.ntmps31
    go_wp2_with (first | ((with_reducible refine gate_dst (N := 1) rfl ?_); refine box_event ?hg (N := 1) ?hd (cs := #[.int .i64 a0_0, .int .i64 a0_1, .int .i64 a0_2, .int .i64 a0_3, .int .u32 a0_4, .int .i64 a0_5, .slice A0_6 l0_6.length c0_6]) (t := 40) ?hr ?_; (case hd => rfl); (case hg => rfl); (case hr => first | (go_simp; done) | (go_simp; rfl)); intro gb152 hg w6 hbox hb; have n0_ := Aside0.mk (below_step (by repeat (first | (with_reducible first | exact HB.out | apply below_alloc | apply pw_below_drewN | apply below_drew1) | exact HB.out)) hb); have n1_ := Aside0.mk (hbox); have n2_ := Aside0.mk ((by rw [hg]; exact (below_size (by repeat (first | (with_reducible first | exact HB.out | apply below_alloc | apply pw_below_drewN | apply below_drew1) | exact HB.out))) : w.heap.size ≤ gb152)); have n3_ := Aside0.mk ((by rw [hg]; exact (below_size (by repeat (first | (with_reducible first | exact HB.out | apply below_alloc | apply pw_below_drewN | apply below_drew1) | exact HB.out))) : w.heap.size ≤ gb152)); clear HB; have HB := n0_; have BK152 := n1_; have GW152 := n2_; have GE152 := n3_; clear n0_ n1_ n2_ n3_; clear hb hbox hg; have hcz7_0 : w6.cell? ⟨gb152, 0, none⟩ = some (.int .i64 a0_0) := (blk_cell BK152.out 0).trans rfl; have hcz7_1 : w6.cell? ⟨gb152, 1, none⟩ = some (.int .i64 a0_1) := (blk_cell BK152.out 1).trans rfl; have hcz7_2 : w6.cell? ⟨gb152, 2, none⟩ = some (.int .i64 a0_2) := (blk_cell BK152.out 2).trans rfl; have hcz7_3 : w6.cell? ⟨gb152, 3, none⟩ = some (.int .i64 a0_3) := (blk_cell BK152.out 3).trans rfl; have hcz7_4 : w6.cell? ⟨gb152, 4, none⟩ = some (.int .u32 a0_4) := (blk_cell BK152.out 4).trans rfl; have hcz7_5 : w6.cell? ⟨gb152, 5, none⟩ = some (.int .i64 a0_5) := (blk_cell BK152.out 5).trans rfl; have hcz7_6 : w6.cell? ⟨gb152, 6, none⟩ = some (.slice A0_6 l0_6.length c0_6) := (blk_cell BK152.out 6).trans rfl; have hfz7_0 := blk_frozen BK152.out 0; have hfz7_1 := blk_frozen BK152.out 1; have hfz7_2 := blk_frozen BK152.out 2; have hfz7_3 := blk_frozen BK152.out 3; have hfz7_4 := blk_frozen BK152.out 4; have hfz7_5 := blk_frozen BK152.out 5; have hfz7_6 := blk_frozen BK152.out 6) | ((with_reducible refine gate_callee (f := 51) rfl ?_); refine goesL_ (some 5) rfl rfl Tryd.func51 (by kernel_rfl) rfl #[.int .i64 a0_0] rfl (by (try simp only [List.map_toArray, List.map_cons, List.map_nil]); first | done | rfl | (simp only [List.length_drop, List.length_take]; rfl)) ?_; (with_reducible refine (switchbackref16_Branch.calls a0_0 false _ A2.out).mono ?_); rintro e w' ⟨rfl, ⟨nd, rfl⟩⟩; refine ⟨_, rfl, ?_⟩))
    go_ret
    exact ⟨by first | rfl | (simp [errW_none, errW_some] <;> rfl) | (simp [*, errW_none, errW_some] <;> rfl), by repeat (first | (with_reducible first | exact HB.out | apply below_alloc | apply pw_below_drewN | apply below_drew1 | refine below_set ?_ GE152.out) | exact HB.out)⟩

end Go.Proofs.YtamimnaafiphcaaDoor.PR1C

-- Written by gp.py for this claim.
namespace Go.Proofs.YtamimnaafiphcaaDoor.PR1C
open Go.RowKit Go.Proofs.YtamimnaafiphcaaDoorW.PrintWords Go.Proofs.YtamimnaafiphcaaDoorW.PrintLast Go.Proofs.YtamimnaafiphcaaDoorW.PrintMore
attribute [local go_sem] max2_int min2_int max_two min_two max_three min_three max_four min_four   -- for this text's walks alone
set_option linter.unusedVariables false
set_option linter.unusedSimpArgs false

/-! ### switchbackref17_Near: function 32 -/
def switchbackref17_Near.f (a0 : Int) : Option (Bool) := if a0 ≥ (-128) then (some (decide (a0 ≤ 127))) else (some false)
set_option maxHeartbeats 8000000 in
set_option maxRecDepth 100000 in
theorem switchbackref17_Near.calls (a0 : Int) (r : Bool) (w : World) (h : switchbackref17_Near.f a0 = some r) :
    Calls Tryd.prog 32 #[.int .i64 a0] w fun e w' => e = .returned (.bool r) ∧ Drawn0 w w' := by
  have H : (if a0 ≥ (-128) then (some (decide (a0 ≤ 127))) else (some false)) = some r := h
  clear h
  by_cases c2 : a0 ≥ (-128)
  · rw [if_pos c2] at H
    have c2b0 : decide ((-128) ≤ a0) = true := decide_eq_true c2
    clear c2
    obtain rfl := Option.some.inj H
    go_enter Tryd.func32, Tryd.ntmps32
    go_wp2
    go_ret
    exact ⟨by first | rfl | (simp; done) | (simp [*]; done), by repeat (first | exact Drawn0.refl _ | apply Drawn0.step)⟩
  · rw [if_neg c2] at H
    have c2b0 : decide ((-128) ≤ a0) = false := decide_eq_false c2
    clear c2
    obtain rfl := Option.some.inj H
    go_enter Tryd.func32, Tryd.ntmps32
    go_wp2
    go_ret
    exact ⟨by first | rfl | (simp; done) | (simp [*]; done), by repeat (first | exact Drawn0.refl _ | apply Drawn0.step)⟩

end Go.Proofs.YtamimnaafiphcaaDoor.PR1C

namespace Go.Proofs.YtamimnaafiphcaaDoor.PR1C
open Go.RowKit Go.Proofs.YtamimnaafiphcaaDoorW.PrintWords Go.Proofs.YtamimnaafiphcaaDoorW.PrintLast Go.Proofs.YtamimnaafiphcaaDoorW.PrintMore

/-! ### enc_Decode: function 56 -/
def enc_Decode.f (a0 : Int) : Option (Int × Int × Int × Int × Int) := if 0 ≤ a0 ∧ a0 < 4294967296 then some ((dec a0).1.1, (dec a0).1.2.1, (dec a0).1.2.2.1, (dec a0).1.2.2.2, (dec a0).2) else none

theorem enc_Decode.calls (a0 : Int) (r1 : Int) (r2 : Int) (r3 : Int) (r4 : Int) (r5 : Int) (w : World) (hLaid_ : Aside0 (Laid w)) (h : enc_Decode.f a0 = some (r1, r2, r3, r4, r5)) :
    Calls Tryd.prog 56 #[.int .u32 a0] w fun e w' => e = .returned (.tuple #[.agg #[.int .i64 r1, .int .i64 r2, .int .i64 r3, .int .i64 r4], .int .i64 r5]) ∧ Below w.heap.size w w' := by
  unfold enc_Decode.f at h
  by_cases hw : 0 ≤ a0 ∧ a0 < 4294967296
  · rw [if_pos hw] at h
    simp only [Option.some.injEq, Prod.mk.injEq] at h
    obtain ⟨rfl, rfl, rfl, rfl, rfl⟩ := h
    exact decode_any a0 w hLaid_.out hw.1 hw.2
  · rw [if_neg hw] at h
    cases h

end Go.Proofs.YtamimnaafiphcaaDoor.PR1C

-- Written by gp.py for this claim.
namespace Go.Proofs.YtamimnaafiphcaaDoor.PR1C
open Go.RowKit Go.Proofs.YtamimnaafiphcaaDoorW.PrintWords Go.Proofs.YtamimnaafiphcaaDoorW.PrintLast Go.Proofs.YtamimnaafiphcaaDoorW.PrintMore
attribute [local go_sem] max2_int min2_int max_two min_two max_three min_three max_four min_four   -- for this text's walks alone
set_option linter.unusedVariables false
set_option linter.unusedSimpArgs false

namespace q_switchbacklaw17_code
theorem uZ {p : Prop} (h : p) : Aside0 p := ⟨h⟩
theorem uK {p q : Prop} (h : p) (g : p → q := by intro h; (with_reducible repeat (first | apply blk_drewN | apply blk_drew | apply blk_alloc)); exact h) : q := g h
theorem uD {p q s r : Prop} (h : p) (j : s) (k : r) (g : p → s → r → q := by intro h j k; repeat (first | (with_reducible first | exact h | apply below_alloc | apply pw_below_drewN | apply below_drew1 | refine below_set ?_ j | refine below_set ?_ k) | exact h)) : q := g h j k
theorem zA : type_of% @blk_drewN := @blk_drewN
theorem zB : type_of% @blk_drew := @blk_drew
theorem zC : type_of% @blk_alloc := @blk_alloc
theorem zD : type_of% @pw_below_drewN := @pw_below_drewN
theorem zE : type_of% @below_alloc := @below_alloc
theorem zF : type_of% @below_drew1 := @below_drew1
theorem zG : type_of% @blk_frozen := @blk_frozen
theorem zH : type_of% @blk_cell := @blk_cell
theorem zI : type_of% @below_set := @below_set
end q_switchbacklaw17_code
open q_switchbacklaw17_code

/-! ### switchbacklaw17_code: function 33 -/
def switchbacklaw17_code.j0 : Nat → Int → Bool → List Int → List Int → List Int → Int → Option (Int × Int × Int × Int × Bool)
  | 0, _, _, _, _, _, _ => none
  | k + 1, x1, x24, x158000, x158001, x158002, x158003 => if x24 = true then (some (0, 0, 0, 0, false)) else (if 0 ≤ x1 then (if x1 < (x158000.length : Int) then ((enc_Decode.f (rd x158000 x1)).bind fun bt161 => (some (bt161.1, bt161.2.1, bt161.2.2.1, bt161.2.2.2.1, (bt161.2.2.2.2 == 0)))) else (none)) else (none))
def switchbacklaw17_code.f (k : Nat) (l0_0 : List Int) (l0_1 : List Int) (l0_2 : List Int) (a0_3 : Int) (a1 : Int) : Option (Int × Int × Int × Int × Bool) := if a1 < 0 then (switchbacklaw17_code.j0 k a1 true l0_0 l0_1 l0_2 a0_3) else (if a1 ≥ (l0_0.length : Int) then (switchbacklaw17_code.j0 k a1 true l0_0 l0_1 l0_2 a0_3) else (if 0 ≤ a1 then (if a1 < (l0_1.length : Int) then (switchbacklaw17_code.j0 k a1 ((rd l0_1 a1) != 1) l0_0 l0_1 l0_2 a0_3) else (none)) else (none)))
theorem switchbacklaw17_code.mono_l : ∀ k, (∀ y0 y1 y2 y3 y4 y5, LeO (switchbacklaw17_code.j0 k y0 y1 y2 y3 y4 y5) (switchbacklaw17_code.j0 (k + 1) y0 y1 y2 y3 y4 y5))
  | 0 => fun _ _ _ _ _ _ r h => by simp [switchbacklaw17_code.j0] at h
  | k + 1 => by
    have ih0 := switchbacklaw17_code.mono_l k
    · intro y0 y1 y2 y3 y4 y5
      unfold switchbacklaw17_code.j0
      repeat' first
      | (with_reducible exact ih0 _ _ _ _ _ _)
      | (with_reducible exact LeO.refl _)
      | (with_reducible exact LeO.none _)
      | (with_reducible refine LeO.ite ?_ ?_)
      | (with_reducible refine LeO.bind ?_ (fun _ => ?_))
      | exact ih0 _ _ _ _ _ _
      | exact LeO.none _
      | refine LeO.ite ?_ ?_
      | refine LeO.bind ?_ (fun _ => ?_)
theorem switchbacklaw17_code.mono : ∀ a0 a1 a2 a3 a4 k, LeO (switchbacklaw17_code.f k a0 a1 a2 a3 a4) (switchbacklaw17_code.f (k + 1) a0 a1 a2 a3 a4) := by
  intro a0 a1 a2 a3 a4 k
  have ih0 := switchbacklaw17_code.mono_l k
  unfold switchbacklaw17_code.f
  repeat' first
      | (with_reducible exact ih0 _ _ _ _ _ _)
      | (with_reducible exact LeO.refl _)
      | (with_reducible exact LeO.none _)
      | (with_reducible refine LeO.ite ?_ ?_)
      | (with_reducible refine LeO.bind ?_ (fun _ => ?_))
      | exact ih0 _ _ _ _ _ _
      | exact LeO.none _
      | refine LeO.ite ?_ ?_
      | refine LeO.bind ?_ (fun _ => ?_)
set_option maxHeartbeats 8000000 in
set_option maxRecDepth 100000 in
theorem switchbacklaw17_code.calls (k : Nat) (A0_0 : Option Addr) (c0_0 : Nat) (l0_0 : List Int) (A0_1 : Option Addr) (c0_1 : Nat) (l0_1 : List Int) (A0_2 : Option Addr) (c0_2 : Nat) (l0_2 : List Int) (a0_3 : Int) (a1 : Int) (r1 : Int) (r2 : Int) (r3 : Int) (r4 : Int) (r5 : Bool) (w : World) (hr0_0 : Kd.C (Kd.int .u32) w A0_0 l0_0.length l0_0) (hc0_0 : l0_0.length ≤ c0_0) (hr0_1 : Kd.C (Kd.int .i64) w A0_1 l0_1.length l0_1) (hc0_1 : l0_1.length ≤ c0_1) (hr0_2 : Kd.C (Kd.int .i64) w A0_2 l0_2.length l0_2) (hc0_2 : l0_2.length ≤ c0_2) (hLaid_ : Aside0 (Laid w)) (h : switchbacklaw17_code.f k l0_0 l0_1 l0_2 a0_3 a1 = some (r1, r2, r3, r4, r5)) :
    Calls Tryd.prog 33 #[.agg #[.slice A0_0 l0_0.length c0_0, .slice A0_1 l0_1.length c0_1, .slice A0_2 l0_2.length c0_2, .int .i64 a0_3], .int .i64 a1] w fun e w' => e = .returned (.tuple #[.agg #[.int .i64 r1, .int .i64 r2, .int .i64 r3, .int .i64 r4], .bool r5]) ∧ Below w.heap.size w w' := by
 have hu27 := Tryd.underlying27
 have hu44 := Tryd.underlying44
 have HR0_0 := uZ hr0_0
 have HC0_0 := uZ hc0_0
 clear hr0_0 hc0_0
 have HR0_1 := uZ hr0_1
 have HC0_1 := uZ hc0_1
 clear hr0_1 hc0_1
 have HR0_2 := uZ hr0_2
 have HC0_2 := uZ hc0_2
 clear hr0_2 hc0_2
 have HB := uZ (Below.refl w.heap.size w)
 have H : (if a1 < 0 then (switchbacklaw17_code.j0 k a1 true l0_0 l0_1 l0_2 a0_3) else (if a1 ≥ (l0_0.length : Int) then (switchbacklaw17_code.j0 k a1 true l0_0 l0_1 l0_2 a0_3) else (if 0 ≤ a1 then (if a1 < (l0_1.length : Int) then (switchbacklaw17_code.j0 k a1 ((rd l0_1 a1) != 1) l0_0 l0_1 l0_2 a0_3) else (none)) else (none)))) = some (r1, r2, r3, r4, r5) := h
 clear h
 have HC3 := uZ H
 clear H
 go_enter Tryd.func33, Tryd.ntmps33
 go_upto_region 1 with (first | ((with_reducible refine gate_dst (N := 2) rfl ?_); (try (refine gate_guard (by rfl) ?_; dsimp only)); refine box_event ?hg (N := 2) ?hd (cs := #[.slice A0_0 l0_0.length c0_0, .slice A0_1 l0_1.length c0_1, .slice A0_2 l0_2.length c0_2, .int .i64 a0_3]) (t := 27) ?hr ?_; (case hd => rfl); (case hg => rfl); (case hr => first | (go_simp; done) | (go_simp; rfl)); intro a7 hg w4 hbox hb; have n0_ := uZ (below_step (by repeat (first | (with_reducible first | exact HB.out | apply zE | apply zD | apply zF) | exact HB.out)) hb); have n1_ := uZ (hbox); have n2_ := uZ ((by rw [hg]; exact (below_size (by repeat (first | (with_reducible first | exact HB.out | apply zE | apply zD | apply zF) | exact HB.out))) : w.heap.size ≤ a7)); have n3_ := uZ ((by rw [hg]; exact (below_size (by repeat (first | (with_reducible first | exact HB.out | apply zE | apply zD | apply zF) | exact HB.out))) : w.heap.size ≤ a7)); clear HB; have HB := n0_; have a5 := n1_; have GW157 := n2_; have aa := n3_; clear n0_ n1_ n2_ n3_; clear hb hbox hg) | ((with_reducible refine gate_dst (N := 4) rfl ?_); (try (refine gate_guard (by rfl) ?_; dsimp only)); refine box_event ?hg (N := 4) ?hd (cs := #[.int .i64 0, .int .i64 0, .int .i64 0, .int .i64 0]) (t := 44) ?hr ?_; (case hd => rfl); (case hg => rfl); (case hr => first | (go_simp; done) | (go_simp; rfl)); intro a8 hg w5 hbox hb; have n0_ := uZ (blk_below (g := a7) (o := .cells #[.slice A0_0 l0_0.length c0_0, .slice A0_1 l0_1.length c0_1, .slice A0_2 l0_2.length c0_2, .int .i64 a0_3] 27 (0, 0)) (uK a5.out) hb); have n1_ := uZ (below_step (by repeat (first | (with_reducible first | exact HB.out | apply zE | apply zD | apply zF | refine zI ?_ aa.out) | exact HB.out)) hb); have n2_ := uZ (hbox); have n3_ := uZ ((by rw [hg]; exact (below_size (by repeat (first | (with_reducible first | exact HB.out | apply zE | apply zD | apply zF | refine zI ?_ aa.out) | exact HB.out))) : w.heap.size ≤ a8)); have n4_ := uZ ((by rw [hg]; exact (below_size (by repeat (first | (with_reducible first | exact HB.out | apply zE | apply zD | apply zF | refine zI ?_ aa.out) | exact HB.out))) : w.heap.size ≤ a8)); have n5_ := uZ ((by rw [hg]; exact Nat.ne_of_lt (blk_lt (g := a7) (o := .cells #[.slice A0_0 l0_0.length c0_0, .slice A0_1 l0_1.length c0_1, .slice A0_2 l0_2.length c0_2, .int .i64 a0_3] 27 (0, 0)) (uK a5.out)) : a7 ≠ a8)); have n6_ := uZ ((by rw [hg]; exact Nat.ne_of_gt (blk_lt (g := a7) (o := .cells #[.slice A0_0 l0_0.length c0_0, .slice A0_1 l0_1.length c0_1, .slice A0_2 l0_2.length c0_2, .int .i64 a0_3] 27 (0, 0)) (uK a5.out)) : a8 ≠ a7)); clear a5; clear HB; have a5 := n0_; have HB := n1_; have a6 := n2_; have GW158 := n3_; have ae := n4_; have ab := n5_; have ac := n6_; clear n0_ n1_ n2_ n3_ n4_ n5_ n6_; clear hb hbox hg))
 (try simp only [Act.put, List.setIfInBounds_toArray, List.set_cons_zero, List.set_cons_succ])
 go_cut [24] (fun v24 wc => ∃ (kq : Nat) (x24_2 : Bool), v24 = .bool x24_2 ∧ Aside0 (switchbacklaw17_code.j0 kq a1 x24_2 l0_0 l0_1 l0_2 a0_3 = some (r1, r2, r3, r4, r5)) ∧ Aside0 (kq ≤ k) ∧ Aside0 (wc.heap[a7]? = some (.cells #[(.slice A0_0 l0_0.length c0_0), (.slice A0_1 l0_1.length c0_1), (.slice A0_2 l0_2.length c0_2), .int .i64 a0_3] 27 (0, 0))) ∧ Aside0 (wc.heap[a8]? = some (.cells #[.int .i64 0, .int .i64 0, .int .i64 0, .int .i64 0] 44 (0, 0))) ∧ Aside0 (Below w.heap.size w wc))
 case first =>
  have H := HC3.out
  clear HC3
  by_cases c6 : a1 < 0
  ·rw [if_pos c6] at H
   have c6b0 : decide (a1 < 0) = true := decide_eq_true c6
   clear c6
   (first | rw [c6b0] | (simp only [i64_w, i32_w]; rw [c6b0]) | skip)
   have H' := uZ H
   clear H
   go_wp2
   go_meet
   case rel => exact ⟨_, (true), (by first | rfl | (simp; done) | (simp [*]; done)), H', ⟨by first | omega | exact Nat.le_refl _⟩, ⟨uK a5.out⟩, ⟨uK a6.out⟩, ⟨uD HB.out aa.out ae.out⟩⟩
  rw [if_neg c6] at H
  have c6b0 : decide (a1 < 0) = false := decide_eq_false c6
  clear c6
  (first | rw [c6b0] | (simp only [i64_w, i32_w]; rw [c6b0]) | skip)
  by_cases c7 : a1 ≥ (l0_0.length : Int)
  ·rw [if_pos c7] at H
   have c7b0 : decide ((l0_0.length : Int) ≤ a1) = true := decide_eq_true c7
   clear c7
   have H' := uZ H
   clear H
   have hnb8 := ab.out
   have hnc8 := ac.out
   have hcz9_0 : w5.cell? ⟨a7, 0, none⟩ = some (.slice A0_0 l0_0.length c0_0) := (zH a5.out 0).trans rfl
   have hcz9_1 : w5.cell? ⟨a7, 1, none⟩ = some (.slice A0_1 l0_1.length c0_1) := (zH a5.out 1).trans rfl
   have hcz9_2 : w5.cell? ⟨a7, 2, none⟩ = some (.slice A0_2 l0_2.length c0_2) := (zH a5.out 2).trans rfl
   have hcz9_3 : w5.cell? ⟨a7, 3, none⟩ = some (.int .i64 a0_3) := (zH a5.out 3).trans rfl
   have hfz9_0 := zG a5.out 0
   have hfz9_1 := zG a5.out 1
   have hfz9_2 := zG a5.out 2
   have hfz9_3 := zG a5.out 3
   go_wp2
   go_meet
   case rel => exact ⟨_, (true), (by first | rfl | (simp; done) | (simp [*]; done)), H', ⟨by first | omega | exact Nat.le_refl _⟩, ⟨uK a5.out⟩, ⟨uK a6.out⟩, ⟨uD HB.out aa.out ae.out⟩⟩
  rw [if_neg c7] at H
  have c7b0 : decide ((l0_0.length : Int) ≤ a1) = false := decide_eq_false c7
  clear c7
  by_cases c10 : 0 ≤ a1
  ·rw [if_pos c10] at H
   have c10b0 : decide (0 ≤ a1) = true := decide_eq_true c10
   clear c10
   by_cases c11 : a1 < (l0_1.length : Int)
   ·rw [if_pos c11] at H
    have c11b0 : decide (a1 < (l0_1.length : Int)) = true := decide_eq_true c11
    clear c11
    have H' := uZ H
    clear H
    have hnb12 := ab.out
    have hnc12 := ac.out
    have hcz13_0 : w5.cell? ⟨a7, 0, none⟩ = some (.slice A0_0 l0_0.length c0_0) := (zH a5.out 0).trans rfl
    have hcz13_1 : w5.cell? ⟨a7, 1, none⟩ = some (.slice A0_1 l0_1.length c0_1) := (zH a5.out 1).trans rfl
    have hcz13_2 : w5.cell? ⟨a7, 2, none⟩ = some (.slice A0_2 l0_2.length c0_2) := (zH a5.out 2).trans rfl
    have hcz13_3 : w5.cell? ⟨a7, 3, none⟩ = some (.int .i64 a0_3) := (zH a5.out 3).trans rfl
    have hfz13_0 := zG a5.out 0
    have hfz13_1 := zG a5.out 1
    have hfz13_2 := zG a5.out 2
    have hfz13_3 := zG a5.out 3
    have p159 : 0 ≤ (a1 : Int) := of_decide_eq_true (by first | (with_reducible assumption) | assumption)
    have q159 : a1 < (l0_1.length : Int) := of_decide_eq_true (by first | (with_reducible assumption) | assumption)
    obtain ⟨ad159, e159, hx159_0⟩ := Kd.at_int HR0_1.out a1 p159 q159
    cases e159
    replace hx159_0 := (HB.out.cell (World.block_lt_of_cell? w _ hx159_0)).trans hx159_0
    replace p159 := eq_true p159
    replace q159 := eq_true q159
    go_wp2
    go_meet
    case rel => exact ⟨_, (((rd l0_1 a1) != 1)), (by first | rfl | (simp; done) | (simp [*]; done)), H', ⟨by first | omega | exact Nat.le_refl _⟩, ⟨uK a5.out⟩, ⟨uK a6.out⟩, ⟨uD HB.out aa.out ae.out⟩⟩
   rw [if_neg c11] at H
   exact absurd H (by simp)
  rw [if_neg c10] at H
  exact absurd H (by simp)
 case rest =>
  clear HC3
  try clear c1
  try clear p1
  try clear q1
  try clear hx1
  try clear p2
  try clear c3
  try clear c6
  try clear c6b0
  try clear c7
  try clear c7b0
  try clear c8
  try clear c10
  try clear c10b0
  try clear c11
  try clear c11b0
  try clear c12
  try clear hcz13_0
  try clear hcz13_1
  try clear hcz13_2
  try clear hcz13_3
  try clear hcz9_0
  try clear hcz9_1
  try clear hcz9_2
  try clear hcz9_3
  try clear hfz13_0
  try clear hfz13_1
  try clear hfz13_2
  try clear hfz13_3
  try clear hfz9_0
  try clear hfz9_1
  try clear hfz9_2
  try clear hfz9_3
  try clear hx159_0
  try clear p159
  try clear q159
  obtain ⟨kq, x24_2, rfl, HA, HJ2, a5, a6, HB⟩ := hcut
  cases kq with
  | zero => exact absurd HA.out (by simp [switchbacklaw17_code.j0])
  | succ kj2 =>
   have H := HA.out
   clear HA
   simp only [switchbacklaw17_code.j0] at H
   by_cases c14 : x24_2 = true
   ·subst c14
    have H1 : (some (0, 0, 0, 0, false)) = some (r1, r2, r3, r4, r5) := by rw [if_pos rfl] at H; exact H
    clear H
    have H := H1
    clear H1
    simp only [Option.some.injEq, Prod.mk.injEq] at H
    obtain ⟨rfl, rfl, rfl, rfl, rfl⟩ := H
    have hnb15 := ac.out
    have hnc15 := ab.out
    have hcz16_0 : wc.cell? ⟨a8, 0, none⟩ = some (.int .i64 0) := (zH a6.out 0).trans rfl
    have hcz16_1 : wc.cell? ⟨a8, 1, none⟩ = some (.int .i64 0) := (zH a6.out 1).trans rfl
    have hcz16_2 : wc.cell? ⟨a8, 2, none⟩ = some (.int .i64 0) := (zH a6.out 2).trans rfl
    have hcz16_3 : wc.cell? ⟨a8, 3, none⟩ = some (.int .i64 0) := (zH a6.out 3).trans rfl
    have hfz16_0 := zG a6.out 0
    have hfz16_1 := zG a6.out 1
    have hfz16_2 := zG a6.out 2
    have hfz16_3 := zG a6.out 3
    go_wp2
    refine bodyPost_ret (results_ct rfl _ _ a8 44 #[.int .i64 0, .int .i64 0, .int .i64 0, .int .i64 0] (0, 0) _ rfl (by (with_reducible repeat (first | apply zA | apply zB | apply zC)); refine blk_put (cs := #[.int .i64 0, .int .i64 0, .int .i64 0, .int .i64 0]) ?_ 3 _ rfl; (with_reducible repeat (first | apply zA | apply zB | apply zC)); refine blk_put (cs := #[.int .i64 0, .int .i64 0, .int .i64 0, .int .i64 0]) ?_ 2 _ rfl; (with_reducible repeat (first | apply zA | apply zB | apply zC)); refine blk_put (cs := #[.int .i64 0, .int .i64 0, .int .i64 0, .int .i64 0]) ?_ 1 _ rfl; (with_reducible repeat (first | apply zA | apply zB | apply zC)); refine blk_put (cs := #[.int .i64 0, .int .i64 0, .int .i64 0, .int .i64 0]) ?_ 0 _ rfl; (with_reducible repeat (first | apply zA | apply zB | apply zC)); exact a6.out) Tryd.underlying44 rfl (by kernel_rfl)) rfl ?_
    exact ⟨by first | rfl | (simp [errW_none, errW_some] <;> rfl) | (simp [*, errW_none, errW_some] <;> rfl), by repeat (first | (with_reducible first | exact HB.out | apply zE | apply zD | apply zF | refine zI ?_ aa.out | refine zI ?_ ae.out) | exact HB.out)⟩
   replace c14 := Bool.eq_false_iff.mpr c14
   subst c14
   have H1 : (if 0 ≤ a1 then (if a1 < (l0_0.length : Int) then ((enc_Decode.f (rd l0_0 a1)).bind fun bt161 => (some (bt161.1, bt161.2.1, bt161.2.2.1, bt161.2.2.2.1, (bt161.2.2.2.2 == 0)))) else (none)) else (none)) = some (r1, r2, r3, r4, r5) := by rw [if_neg (show ¬ (false = true) by decide)] at H; exact H
   clear H
   have H := H1
   clear H1
   by_cases c17 : 0 ≤ a1
   ·rw [if_pos c17] at H
    have c17b0 : decide (0 ≤ a1) = true := decide_eq_true c17
    clear c17
    by_cases c18 : a1 < (l0_0.length : Int)
    ·rw [if_pos c18] at H
     have c18b0 : decide (a1 < (l0_0.length : Int)) = true := decide_eq_true c18
     clear c18
     replace H := Option.bind_eq_some_iff.mp H
     obtain ⟨⟨t161, t162, t163, t164, t165⟩, A190, H⟩ := H
     replace H : (some (t161, t162, t163, t164, (t165 == 0))) = some (r1, r2, r3, r4, r5) := H
     have A19 := uZ A190
     clear A190
     simp only [Option.some.injEq, Prod.mk.injEq] at H
     obtain ⟨rfl, rfl, rfl, rfl, rfl⟩ := H
     have hnb20 := ab.out
     have hnc20 := ac.out
     have hcz21_0 : wc.cell? ⟨a7, 0, none⟩ = some (.slice A0_0 l0_0.length c0_0) := (zH a5.out 0).trans rfl
     have hcz21_1 : wc.cell? ⟨a7, 1, none⟩ = some (.slice A0_1 l0_1.length c0_1) := (zH a5.out 1).trans rfl
     have hcz21_2 : wc.cell? ⟨a7, 2, none⟩ = some (.slice A0_2 l0_2.length c0_2) := (zH a5.out 2).trans rfl
     have hcz21_3 : wc.cell? ⟨a7, 3, none⟩ = some (.int .i64 a0_3) := (zH a5.out 3).trans rfl
     have hfz21_0 := zG a5.out 0
     have hfz21_1 := zG a5.out 1
     have hfz21_2 := zG a5.out 2
     have hfz21_3 := zG a5.out 3
     have p160 : 0 ≤ (a1 : Int) := of_decide_eq_true (by first | (with_reducible assumption) | assumption)
     have q160 : a1 < (l0_0.length : Int) := of_decide_eq_true (by first | (with_reducible assumption) | assumption)
     obtain ⟨ad160, e160, hx160_0⟩ := Kd.at_int HR0_0.out a1 p160 q160
     cases e160
     replace hx160_0 := (HB.out.cell (World.block_lt_of_cell? w _ hx160_0)).trans hx160_0
     replace p160 := eq_true p160
     replace q160 := eq_true q160
     go_wp2_with (first | ((with_reducible refine gate_callee (f := 56) rfl ?_); refine goesL_ (some 32) rfl rfl Tryd.func56 (by kernel_rfl) rfl #[.int .u32 (rd l0_0 a1)] rfl (by (try simp only [List.map_toArray, List.map_cons, List.map_nil]); first | done | rfl | (simp only [List.length_drop, List.length_take]; rfl)) ?_; (with_reducible refine (enc_Decode.calls (rd l0_0 a1) t161 t162 t163 t164 t165 _ (uZ (hLaid_.out.below (by repeat (first | (with_reducible first | exact HB.out | apply zE | apply zD | apply zF) | refine zI ?_ (Aside0.out (by assumption)) | exact HB.out)))) A19.out).mono ?_); rintro e w22 ⟨rfl, hb⟩; refine ⟨_, rfl, ?_⟩; have n0_ := uZ (blk_below (g := a7) (o := .cells #[.slice (some ad160) l0_0.length c0_0, .slice A0_1 l0_1.length c0_1, .slice A0_2 l0_2.length c0_2, .int .i64 a0_3] 27 (0, 0)) (uK a5.out) hb); have n1_ := uZ (blk_below (g := a8) (o := .cells #[.int .i64 0, .int .i64 0, .int .i64 0, .int .i64 0] 44 (0, 0)) (uK a6.out) hb); have n2_ := uZ (below_step (uD HB.out aa.out ae.out) hb); clear a5; clear a6; clear HB; have a5 := n0_; have a6 := n1_; have HB := n2_; clear n0_ n1_ n2_; (try clear hb); (try clear hb2); (try clear hk); (try clear hi)) | ((with_reducible refine gate_dst (N := 6) rfl ?_); (try (refine gate_guard (by rfl) ?_; dsimp only)); refine box_event ?hg (N := 6) ?hd (cs := #[.int .i64 0, .int .i64 0, .int .i64 0, .int .i64 0]) (t := 44) ?hr ?_; (case hd => rfl); (case hg => rfl); (case hr => first | (go_simp; done) | (go_simp; rfl)); intro ad hg w23 hbox hb; have n0_ := uZ (blk_below (g := a7) (o := .cells #[.slice (some ad160) l0_0.length c0_0, .slice A0_1 l0_1.length c0_1, .slice A0_2 l0_2.length c0_2, .int .i64 a0_3] 27 (0, 0)) (uK a5.out) hb); have n1_ := uZ (blk_below (g := a8) (o := .cells #[.int .i64 0, .int .i64 0, .int .i64 0, .int .i64 0] 44 (0, 0)) (uK a6.out) hb); have n2_ := uZ (below_step (uD HB.out aa.out ae.out) hb); have n3_ := uZ (hbox); have n4_ := uZ ((by rw [hg]; exact (below_size (uD HB.out aa.out ae.out)) : w.heap.size ≤ ad)); have n5_ := uZ ((by rw [hg]; exact (below_size (uD HB.out aa.out ae.out)) : w.heap.size ≤ ad)); have n6_ := uZ ((by rw [hg]; exact Nat.ne_of_lt (blk_lt (g := a7) (o := .cells #[.slice (some ad160) l0_0.length c0_0, .slice A0_1 l0_1.length c0_1, .slice A0_2 l0_2.length c0_2, .int .i64 a0_3] 27 (0, 0)) (uK a5.out)) : a7 ≠ ad)); have n7_ := uZ ((by rw [hg]; exact Nat.ne_of_gt (blk_lt (g := a7) (o := .cells #[.slice (some ad160) l0_0.length c0_0, .slice A0_1 l0_1.length c0_1, .slice A0_2 l0_2.length c0_2, .int .i64 a0_3] 27 (0, 0)) (uK a5.out)) : ad ≠ a7)); have n8_ := uZ ((by rw [hg]; exact Nat.ne_of_lt (blk_lt (g := a8) (o := .cells #[.int .i64 0, .int .i64 0, .int .i64 0, .int .i64 0] 44 (0, 0)) (uK a6.out)) : a8 ≠ ad)); have n9_ := uZ ((by rw [hg]; exact Nat.ne_of_gt (blk_lt (g := a8) (o := .cells #[.int .i64 0, .int .i64 0, .int .i64 0, .int .i64 0] 44 (0, 0)) (uK a6.out)) : ad ≠ a8)); clear a5; clear a6; clear HB; have a5 := n0_; have a6 := n1_; have HB := n2_; have BK166 := n3_; have GW166 := n4_; have GE166 := n5_; have NB157_166 := n6_; have NB166_157 := n7_; have a9 := n8_; have NB166_158 := n9_; clear n0_ n1_ n2_ n3_ n4_ n5_ n6_ n7_ n8_ n9_; clear hb hbox hg; have hnb24 := NB166_157.out; have hnc24 := NB157_166.out; have hnb25 := NB166_158.out; have hnc25 := a9.out; have hcz26_0 : w23.cell? ⟨ad, 0, none⟩ = some (.int .i64 0) := (zH BK166.out 0).trans rfl; have hcz26_1 : w23.cell? ⟨ad, 1, none⟩ = some (.int .i64 0) := (zH BK166.out 1).trans rfl; have hcz26_2 : w23.cell? ⟨ad, 2, none⟩ = some (.int .i64 0) := (zH BK166.out 2).trans rfl; have hcz26_3 : w23.cell? ⟨ad, 3, none⟩ = some (.int .i64 0) := (zH BK166.out 3).trans rfl; have hfz26_0 := zG BK166.out 0; have hfz26_1 := zG BK166.out 1; have hfz26_2 := zG BK166.out 2; have hfz26_3 := zG BK166.out 3; have hcz27_0 : w23.cell? ⟨a8, 0, none⟩ = some (.int .i64 0) := (zH a6.out 0).trans rfl; have hcz27_1 : w23.cell? ⟨a8, 1, none⟩ = some (.int .i64 0) := (zH a6.out 1).trans rfl; have hcz27_2 : w23.cell? ⟨a8, 2, none⟩ = some (.int .i64 0) := (zH a6.out 2).trans rfl; have hcz27_3 : w23.cell? ⟨a8, 3, none⟩ = some (.int .i64 0) := (zH a6.out 3).trans rfl; have hfz27_0 := zG a6.out 0; have hfz27_1 := zG a6.out 1; have hfz27_2 := zG a6.out 2; have hfz27_3 := zG a6.out 3))
     refine bodyPost_ret (results_ct rfl _ _ a8 44 #[.int .i64 t161, .int .i64 t162, .int .i64 t163, .int .i64 t164] (0, 0) _ rfl (by (with_reducible repeat (first | apply zA | apply zB | apply zC)); refine blk_put (cs := #[.int .i64 t161, .int .i64 t162, .int .i64 t163, .int .i64 0]) ?_ 3 _ rfl; (with_reducible repeat (first | apply zA | apply zB | apply zC)); refine blk_put (cs := #[.int .i64 t161, .int .i64 t162, .int .i64 0, .int .i64 0]) ?_ 2 _ rfl; (with_reducible repeat (first | apply zA | apply zB | apply zC)); refine blk_put (cs := #[.int .i64 t161, .int .i64 0, .int .i64 0, .int .i64 0]) ?_ 1 _ rfl; (with_reducible repeat (first | apply zA | apply zB | apply zC)); refine blk_put (cs := #[.int .i64 0, .int .i64 0, .int .i64 0, .int .i64 0]) ?_ 0 _ rfl; (with_reducible repeat (first | apply zA | apply zB | apply zC)); refine blk_far ?_ a9.out _; (with_reducible repeat (first | apply zA | apply zB | apply zC)); refine blk_far ?_ a9.out _; (with_reducible repeat (first | apply zA | apply zB | apply zC)); refine blk_far ?_ a9.out _; (with_reducible repeat (first | apply zA | apply zB | apply zC)); refine blk_far ?_ a9.out _; (with_reducible repeat (first | apply zA | apply zB | apply zC)); exact a6.out) Tryd.underlying44 rfl (by kernel_rfl)) rfl ?_
     exact ⟨by first | rfl | (simp [errW_none, errW_some] <;> rfl) | (simp [*, errW_none, errW_some] <;> rfl), by repeat (first | (with_reducible first | exact HB.out | apply zE | apply zD | apply zF | refine zI ?_ aa.out | refine zI ?_ ae.out | refine zI ?_ GE166.out) | exact HB.out)⟩
    rw [if_neg c18] at H
    exact absurd H (by simp)
   rw [if_neg c17] at H
   exact absurd H (by simp)

end Go.Proofs.YtamimnaafiphcaaDoor.PR1C
