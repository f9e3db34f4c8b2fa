/- Texts joined: PZ1x0 PZ1x51 PZ1x43 PZ1x44 PZ1x45 PZ1x52 PZ1x53 PZ1x54 PZ1x55 PZ1x56 PZ1x57. -/
import Derived.Test.YtlhgfhmdhmgmpaaGreatDoorProg
import Derived.Below
import Derived.Deep.Draws
import Derived.Deep.AppendLies
import Derived.Maps.AppendAt
import Derived.OwnWalk
import Derived.Laws.BytesArg
import Derived.Laws.MakeOwn
import Derived.Laws.OwnMore
import Derived.Deep.OwnRows
import Derived.Tactics
import Derived.Lib.ConvBytes
import Derived.Laws.Slices
import Derived.WalkKit
import Derived.KernelRfl
import Derived.RowKit3
import Derived.Deep.LoopGhost
import Derived.Deep.QuietTactic
import Derived.BigQuiet
import Derived.WideLaws
import Derived.Deep.DeepCutAuto
import Derived.Deep.CutBlock
import Derived.Deep.RegionHeld3
import Derived.Laws.Rows
import Derived.Lib.AppendStr
import Derived.ArgAppend
import Derived.Laws.IdiomCopy
import Derived.OrdersHeld
import Derived.Laws.BitsLemmas
import Derived.RowKit
import Derived.Test.YtlhgfhmdhmgmpaaGreatDoorWWords
import Derived.Test.YtlhgfhmdhmgmpaaGreatDoorWZ
-- Written by gp.py for this claim.
namespace Go.Proofs.YtlhgfhmdhmgmpaaGreatDoor.PZ1
open Go.RowKit Go.Proofs.YtlhgfhmdhmgmpaaGreatDoorW.PrintWords Go.Proofs.YtlhgfhmdhmgmpaaGreatDoorW.PrintLast Go.Proofs.YtlhgfhmdhmgmpaaGreatDoorW.PrintMore
attribute [local go_sem] max2_int min2_int max_two min_two max_three min_three max_four min_four   -- for this text's walks alone
set_option linter.unusedVariables false
set_option linter.unusedSimpArgs false



def errW : Option Int → Value
  | none => .nilIface
  | some c => .iface 182 (.int .i64 c)
theorem errW_none : errW none = .nilIface := rfl
theorem errW_some (c : Int) : errW (some c) = .iface 182 (.int .i64 c) := rfl

theorem info3 : (Tryz.prog.info? 3).map (fun i => (i.zero, i.size, i.bytes)) = some (some (.int .i64 0), 1, 8) := by kernel_rfl
theorem info5 : (Tryz.prog.info? 5).map (fun i => (i.zero, i.size, i.bytes)) = some (some (.int .u8 0), 1, 1) := by kernel_rfl
theorem info9 : (Tryz.prog.info? 9).map (fun i => (i.zero, i.size, i.bytes)) = some (some (.string ⟨#[]⟩), 1, 16) := by kernel_rfl
theorem info49 : (Tryz.prog.info? 49).map (fun i => (i.zero, i.size, i.bytes)) = some (some (.agg #[(.int .i64 0), (.int .i64 0), (.int .i64 0), (.int .i64 0), (.int .u32 0), (.int .i64 0), (.slice none 0 0)]), 7, 72) := by kernel_rfl
-- the values' own types
def rd_L2 (xs : List (List Int)) (i : Int) : (List Int) := xs.getD i.toNat ([] : List Int)
theorem at_L2 {w : World} {A : Option Addr} {n : Nat} {xs : List (List Int)} (h : Kd.C (Kd.slice 3 (Kd.int .i64)) w A n xs) (i : Int) (h0 : 0 ≤ i) (h1 : i < n) : ∃ ad A0 c0, A = some ad ∧ w.cell? (ad.add i.toNat) = some (.slice A0 (rd_L2 xs i).length c0) ∧ (rd_L2 xs i).length ≤ c0 ∧ (Kd.int .i64).C w A0 (rd_L2 xs i).length (rd_L2 xs i) := by
  obtain ⟨ad, c, e, _, hK, hc0⟩ := Kd.C_get h ([] : List Int) i h0 h1
  have hc : ∀ j u, c[j]? = some u → w.cell? (ad.add (i.toNat * 1 + j)) = some u := hc0
  obtain ⟨A0, c0, rfl, l0, g0⟩ := hK
  exact ⟨ad, A0, c0, e, by have hq := hc 0 _ rfl; rwa [Nat.mul_one, Nat.add_zero] at hq, l0, g0⟩

/-! #### struct type 49 -/
structure S49 where
  f0 : Int
  f1 : Int
  f2 : Int
  f3 : Int
  f4 : Int
  f5 : Int
  f6 : (List Int)
def z49 : S49 := ⟨(0 : Int), (0 : Int), (0 : Int), (0 : Int), (0 : Int), (0 : Int), ([] : List Int)⟩
def k49 : Kd S49 := Kd.iso (Kd.pair (Kd.int .i64) (Kd.pair (Kd.int .i64) (Kd.pair (Kd.int .i64) (Kd.pair (Kd.int .i64) (Kd.pair (Kd.int .u32) (Kd.pair (Kd.int .i64) (Kd.slice 3 (Kd.int .i64)))))))) (fun x : S49 => (x.f0, x.f1, x.f2, x.f3, x.f4, x.f5, x.f6))
theorem k49_heap : Kd.Heap k49 := Kd.heap_iso _ (Kd.heap_pair (Kd.heap_int .i64) (Kd.heap_pair (Kd.heap_int .i64) (Kd.heap_pair (Kd.heap_int .i64) (Kd.heap_pair (Kd.heap_int .i64) (Kd.heap_pair (Kd.heap_int .u32) (Kd.heap_pair (Kd.heap_int .i64) (Kd.heap_slice 3 (Kd.heap_int .i64))))))))
theorem k49_open {w : World} {x : S49} {cs : List Value} (h : k49.K w x cs) : ∃ A6 c6, cs = [.int .i64 x.f0, .int .i64 x.f1, .int .i64 x.f2, .int .i64 x.f3, .int .u32 x.f4, .int .i64 x.f5, .slice A6 x.f6.length c6] ∧ x.f6.length ≤ c6 ∧ (Kd.int .i64).C w A6 x.f6.length x.f6 := by
  obtain ⟨_, _, rfl, rfl, ⟨_, _, rfl, rfl, ⟨_, _, rfl, rfl, ⟨_, _, rfl, rfl, ⟨_, _, rfl, rfl, ⟨_, _, rfl, rfl, ⟨A6, c6, rfl, l6, g6⟩⟩⟩⟩⟩⟩⟩ := h
  exact ⟨A6, c6, rfl, l6, g6⟩
theorem k49_openM {w : World} {base : Nat} {ok : Nat → Prop} {x : S49} {cs : List Value} (h : k49.M w base ok x cs) : ∃ v6, cs = [.int .i64 x.f0, .int .i64 x.f1, .int .i64 x.f2, .int .i64 x.f3, .int .u32 x.f4, .int .i64 x.f5, v6] ∧ (Kd.int .i64).R 3 w base ok v6 x.f6 := by
  obtain ⟨_, _, rfl, rfl, ⟨_, _, rfl, rfl, ⟨_, _, rfl, rfl, ⟨_, _, rfl, rfl, ⟨_, _, rfl, rfl, ⟨_, _, rfl, rfl, ⟨v6, rfl, g6⟩⟩⟩⟩⟩⟩⟩ := h
  exact ⟨v6, rfl, g6⟩
theorem k49_mk (w : World) (x : S49) {A6 : Option Addr} {c6 : Nat} (l6 : x.f6.length ≤ c6) (g6 : (Kd.int .i64).C w A6 x.f6.length x.f6) : k49.K w x [.int .i64 x.f0, .int .i64 x.f1, .int .i64 x.f2, .int .i64 x.f3, .int .u32 x.f4, .int .i64 x.f5, .slice A6 x.f6.length c6] := ⟨[.int .i64 x.f0], [.int .i64 x.f1, .int .i64 x.f2, .int .i64 x.f3, .int .u32 x.f4, .int .i64 x.f5, .slice A6 x.f6.length c6], rfl, rfl, ⟨[.int .i64 x.f1], [.int .i64 x.f2, .int .i64 x.f3, .int .u32 x.f4, .int .i64 x.f5, .slice A6 x.f6.length c6], rfl, rfl, ⟨[.int .i64 x.f2], [.int .i64 x.f3, .int .u32 x.f4, .int .i64 x.f5, .slice A6 x.f6.length c6], rfl, rfl, ⟨[.int .i64 x.f3], [.int .u32 x.f4, .int .i64 x.f5, .slice A6 x.f6.length c6], rfl, rfl, ⟨[.int .u32 x.f4], [.int .i64 x.f5, .slice A6 x.f6.length c6], rfl, rfl, ⟨[.int .i64 x.f5], [.slice A6 x.f6.length c6], rfl, rfl, ⟨A6, c6, rfl, l6, g6⟩⟩⟩⟩⟩⟩⟩
theorem k49_mkM (w : World) (base : Nat) (ok : Nat → Prop) (x : S49) {v6 : Value} (g6 : (Kd.int .i64).R 3 w base ok v6 x.f6) : k49.M w base ok x [.int .i64 x.f0, .int .i64 x.f1, .int .i64 x.f2, .int .i64 x.f3, .int .u32 x.f4, .int .i64 x.f5, v6] := ⟨[.int .i64 x.f0], [.int .i64 x.f1, .int .i64 x.f2, .int .i64 x.f3, .int .u32 x.f4, .int .i64 x.f5, v6], rfl, rfl, ⟨[.int .i64 x.f1], [.int .i64 x.f2, .int .i64 x.f3, .int .u32 x.f4, .int .i64 x.f5, v6], rfl, rfl, ⟨[.int .i64 x.f2], [.int .i64 x.f3, .int .u32 x.f4, .int .i64 x.f5, v6], rfl, rfl, ⟨[.int .i64 x.f3], [.int .u32 x.f4, .int .i64 x.f5, v6], rfl, rfl, ⟨[.int .u32 x.f4], [.int .i64 x.f5, v6], rfl, rfl, ⟨[.int .i64 x.f5], [v6], rfl, rfl, ⟨v6, rfl, g6⟩⟩⟩⟩⟩⟩⟩
theorem k49_openF {W : World} {ok : Nat → Prop} {x : S49} {cs : List Value} (h : Kd.FK k49 W ok x cs) : ∃ A6 c6, cs = [.int .i64 x.f0, .int .i64 x.f1, .int .i64 x.f2, .int .i64 x.f3, .int .u32 x.f4, .int .i64 x.f5, .slice A6 x.f6.length c6] ∧ x.f6.length ≤ c6 ∧ Kd.F (Kd.int .i64) W ok A6 x.f6.length x.f6 := by
  obtain ⟨A6, c6, rfl, l6, _⟩ := k49_open (Kd.FK_now h)
  exact ⟨A6, c6, rfl, l6, (fun W' hW => by obtain ⟨A6_, c6_, he, l6_, g6_⟩ := k49_open (h W' hW); injection (Option.some.inj (show some (Value.slice A6 x.f6.length c6) = some (Value.slice A6_ x.f6.length c6_) from congrArg (fun l => l[6]?) he)) with ha_ _ _; rw [ha_]; exact g6_)⟩
theorem k49_mkF (W : World) (ok : Nat → Prop) (x : S49) {A6 : Option Addr} {c6 : Nat} (l6 : x.f6.length ≤ c6) (g6 : Kd.F (Kd.int .i64) W ok A6 x.f6.length x.f6) : Kd.FK k49 W ok x [.int .i64 x.f0, .int .i64 x.f1, .int .i64 x.f2, .int .i64 x.f3, .int .u32 x.f4, .int .i64 x.f5, .slice A6 x.f6.length c6] := fun W2 hW => k49_mk W2 x l6 (g6 W2 hW)
def rd_T49 (xs : List S49) (i : Int) : S49 := xs.getD i.toNat z49
theorem at_T49 {w : World} {A : Option Addr} {n : Nat} {xs : List S49} (h : Kd.C k49 w A n xs) (i : Int) (h0 : 0 ≤ i) (h1 : i < n) : ∃ ad A6 c6, A = some ad ∧ w.cell? (ad.add (i.toNat * 7)) = some (.int .i64 (rd_T49 xs i).f0) ∧ w.cell? ⟨(ad.add (i.toNat * 7)).block, (ad.add (i.toNat * 7)).off + 1, none⟩ = some (.int .i64 (rd_T49 xs i).f1) ∧ w.cell? ⟨(ad.add (i.toNat * 7)).block, (ad.add (i.toNat * 7)).off + 2, none⟩ = some (.int .i64 (rd_T49 xs i).f2) ∧ w.cell? ⟨(ad.add (i.toNat * 7)).block, (ad.add (i.toNat * 7)).off + 3, none⟩ = some (.int .i64 (rd_T49 xs i).f3) ∧ w.cell? ⟨(ad.add (i.toNat * 7)).block, (ad.add (i.toNat * 7)).off + 4, none⟩ = some (.int .u32 (rd_T49 xs i).f4) ∧ w.cell? ⟨(ad.add (i.toNat * 7)).block, (ad.add (i.toNat * 7)).off + 5, none⟩ = some (.int .i64 (rd_T49 xs i).f5) ∧ w.cell? ⟨(ad.add (i.toNat * 7)).block, (ad.add (i.toNat * 7)).off + 6, none⟩ = some (.slice A6 (rd_T49 xs i).f6.length c6) ∧ (rd_T49 xs i).f6.length ≤ c6 ∧ (Kd.int .i64).C w A6 (rd_T49 xs i).f6.length (rd_T49 xs i).f6 := by
  obtain ⟨ad, c, e, _, hK, hc0⟩ := Kd.C_get h z49 i h0 h1
  have hc : ∀ j u, c[j]? = some u → w.cell? (ad.add (i.toNat * 7 + j)) = some u := hc0
  obtain ⟨A6, c6, rfl, l6, g6⟩ := k49_open hK
  exact ⟨ad, A6, c6, e, hc 0 _ rfl, by rw [← add_field _ _ 1 (by omega)]; exact hc 1 _ rfl, by rw [← add_field _ _ 2 (by omega)]; exact hc 2 _ rfl, by rw [← add_field _ _ 3 (by omega)]; exact hc 3 _ rfl, by rw [← add_field _ _ 4 (by omega)]; exact hc 4 _ rfl, by rw [← add_field _ _ 5 (by omega)]; exact hc 5 _ rfl, by rw [← add_field _ _ 6 (by omega)]; exact hc 6 _ rfl, l6, g6⟩

/-! #### struct type 172 -/
structure S172 where
  f0 : Int
  f1 : Int
  f2 : Int
def z172 : S172 := ⟨(0 : Int), (0 : Int), (0 : Int)⟩
def k172 : Kd S172 := Kd.iso (Kd.pair (Kd.int .u16) (Kd.pair (Kd.int .u16) (Kd.int .u16))) (fun x : S172 => (x.f0, x.f1, x.f2))
theorem k172_heap : Kd.Heap k172 := Kd.heap_iso _ (Kd.heap_pair (Kd.heap_int .u16) (Kd.heap_pair (Kd.heap_int .u16) (Kd.heap_int .u16)))
theorem k172_open {w : World} {x : S172} {cs : List Value} (h : k172.K w x cs) : cs = [.int .u16 x.f0, .int .u16 x.f1, .int .u16 x.f2] := by
  obtain ⟨_, _, rfl, rfl, ⟨_, _, rfl, rfl, rfl⟩⟩ := h
  exact rfl
theorem k172_openM {w : World} {base : Nat} {ok : Nat → Prop} {x : S172} {cs : List Value} (h : k172.M w base ok x cs) : cs = [.int .u16 x.f0, .int .u16 x.f1, .int .u16 x.f2] := by
  obtain ⟨_, _, rfl, rfl, ⟨_, _, rfl, rfl, rfl⟩⟩ := h
  exact rfl
theorem k172_mk (w : World) (x : S172)  : k172.K w x [.int .u16 x.f0, .int .u16 x.f1, .int .u16 x.f2] := ⟨[.int .u16 x.f0], [.int .u16 x.f1, .int .u16 x.f2], rfl, rfl, ⟨[.int .u16 x.f1], [.int .u16 x.f2], rfl, rfl, rfl⟩⟩
theorem k172_mkM (w : World) (base : Nat) (ok : Nat → Prop) (x : S172)  : k172.M w base ok x [.int .u16 x.f0, .int .u16 x.f1, .int .u16 x.f2] := ⟨[.int .u16 x.f0], [.int .u16 x.f1, .int .u16 x.f2], rfl, rfl, ⟨[.int .u16 x.f1], [.int .u16 x.f2], rfl, rfl, rfl⟩⟩
theorem k172_mkF (W : World) (ok : Nat → Prop) (x : S172) : Kd.FK k172 W ok x [.int .u16 x.f0, .int .u16 x.f1, .int .u16 x.f2] := fun W2 _ => k172_mk W2 x
def rd_T172 (xs : List S172) (i : Int) : S172 := xs.getD i.toNat z172
theorem at_T172 {w : World} {A : Option Addr} {n : Nat} {xs : List S172} (h : Kd.C k172 w A n xs) (i : Int) (h0 : 0 ≤ i) (h1 : i < n) : ∃ ad , A = some ad ∧ w.cell? (ad.add (i.toNat * 3)) = some (.int .u16 (rd_T172 xs i).f0) ∧ w.cell? ⟨(ad.add (i.toNat * 3)).block, (ad.add (i.toNat * 3)).off + 1, none⟩ = some (.int .u16 (rd_T172 xs i).f1) ∧ w.cell? ⟨(ad.add (i.toNat * 3)).block, (ad.add (i.toNat * 3)).off + 2, none⟩ = some (.int .u16 (rd_T172 xs i).f2) := by
  obtain ⟨ad, c, e, _, hK, hc0⟩ := Kd.C_get h z172 i h0 h1
  have hc : ∀ j u, c[j]? = some u → w.cell? (ad.add (i.toNat * 3 + j)) = some u := hc0
  obtain rfl := k172_open hK
  exact ⟨ad, e, hc 0 _ rfl, by rw [← add_field _ _ 1 (by omega)]; exact hc 1 _ rfl, by rw [← add_field _ _ 2 (by omega)]; exact hc 2 _ rfl⟩

/-! #### struct type 175 -/
structure S175 where
  f0 : Int
  f1 : Int
  f2 : Int
def z175 : S175 := ⟨(0 : Int), (0 : Int), (0 : Int)⟩
def k175 : Kd S175 := Kd.iso (Kd.pair (Kd.int .u32) (Kd.pair (Kd.int .u32) (Kd.int .u32))) (fun x : S175 => (x.f0, x.f1, x.f2))
theorem k175_heap : Kd.Heap k175 := Kd.heap_iso _ (Kd.heap_pair (Kd.heap_int .u32) (Kd.heap_pair (Kd.heap_int .u32) (Kd.heap_int .u32)))
theorem k175_open {w : World} {x : S175} {cs : List Value} (h : k175.K w x cs) : cs = [.int .u32 x.f0, .int .u32 x.f1, .int .u32 x.f2] := by
  obtain ⟨_, _, rfl, rfl, ⟨_, _, rfl, rfl, rfl⟩⟩ := h
  exact rfl
theorem k175_openM {w : World} {base : Nat} {ok : Nat → Prop} {x : S175} {cs : List Value} (h : k175.M w base ok x cs) : cs = [.int .u32 x.f0, .int .u32 x.f1, .int .u32 x.f2] := by
  obtain ⟨_, _, rfl, rfl, ⟨_, _, rfl, rfl, rfl⟩⟩ := h
  exact rfl
theorem k175_mk (w : World) (x : S175)  : k175.K w x [.int .u32 x.f0, .int .u32 x.f1, .int .u32 x.f2] := ⟨[.int .u32 x.f0], [.int .u32 x.f1, .int .u32 x.f2], rfl, rfl, ⟨[.int .u32 x.f1], [.int .u32 x.f2], rfl, rfl, rfl⟩⟩
theorem k175_mkM (w : World) (base : Nat) (ok : Nat → Prop) (x : S175)  : k175.M w base ok x [.int .u32 x.f0, .int .u32 x.f1, .int .u32 x.f2] := ⟨[.int .u32 x.f0], [.int .u32 x.f1, .int .u32 x.f2], rfl, rfl, ⟨[.int .u32 x.f1], [.int .u32 x.f2], rfl, rfl, rfl⟩⟩
theorem k175_mkF (W : World) (ok : Nat → Prop) (x : S175) : Kd.FK k175 W ok x [.int .u32 x.f0, .int .u32 x.f1, .int .u32 x.f2] := fun W2 _ => k175_mk W2 x
def rd_T175 (xs : List S175) (i : Int) : S175 := xs.getD i.toNat z175
theorem at_T175 {w : World} {A : Option Addr} {n : Nat} {xs : List S175} (h : Kd.C k175 w A n xs) (i : Int) (h0 : 0 ≤ i) (h1 : i < n) : ∃ ad , A = some ad ∧ w.cell? (ad.add (i.toNat * 3)) = some (.int .u32 (rd_T175 xs i).f0) ∧ w.cell? ⟨(ad.add (i.toNat * 3)).block, (ad.add (i.toNat * 3)).off + 1, none⟩ = some (.int .u32 (rd_T175 xs i).f1) ∧ w.cell? ⟨(ad.add (i.toNat * 3)).block, (ad.add (i.toNat * 3)).off + 2, none⟩ = some (.int .u32 (rd_T175 xs i).f2) := by
  obtain ⟨ad, c, e, _, hK, hc0⟩ := Kd.C_get h z175 i h0 h1
  have hc : ∀ j u, c[j]? = some u → w.cell? (ad.add (i.toNat * 3 + j)) = some u := hc0
  obtain rfl := k175_open hK
  exact ⟨ad, e, hc 0 _ rfl, by rw [← add_field _ _ 1 (by omega)]; exact hc 1 _ rfl, by rw [← add_field _ _ 2 (by omega)]; exact hc 2 _ rfl⟩

end Go.Proofs.YtlhgfhmdhmgmpaaGreatDoor.PZ1

-- Written by gp.py for this claim.
namespace Go.Proofs.YtlhgfhmdhmgmpaaGreatDoor.PZ1
open Go.RowKit Go.Proofs.YtlhgfhmdhmgmpaaGreatDoorW.PrintWords Go.Proofs.YtlhgfhmdhmgmpaaGreatDoorW.PrintLast Go.Proofs.YtlhgfhmdhmgmpaaGreatDoorW.PrintMore
attribute [local go_sem] max2_int min2_int max_two min_two max_three min_three max_four min_four   -- for this text's walks alone
set_option linter.unusedVariables false
set_option linter.unusedSimpArgs false

namespace q_switchbackref22_Digits
theorem uZ {p : Prop} (h : p) : Aside0 p := ⟨h⟩
theorem uB {p q : Prop} (h : p) (g : p → q := by intro h; repeat (first | (with_reducible first | exact h | apply below_alloc | apply pw_below_drewN | apply below_drew1) | exact h)) : q := g h
theorem zA : type_of% @Kd.R_alloc := @Kd.R_alloc
theorem zB : type_of% @Kd.R_drewN := @Kd.R_drewN
end q_switchbackref22_Digits
open q_switchbackref22_Digits

/-! ### switchbackref22_Digits: function 37 -/
mutual
def switchbackref22_Digits.j0 : Nat → Int → List Int → Int → Option (ByteArray)
  | 0, _, _, _ => none
  | k + 1, x0, x3, x4 => switchbackref22_Digits.l0 k x0 x3 x4
def switchbackref22_Digits.l0 : Nat → Int → List Int → Int → Option (ByteArray)
  | 0, _, _, _ => none
  | k + 1, x0, x3, x4 => if x4 > 0 then ((some (([(IntKind.u64.wrap (48 + (Int.tmod x4 10))) % 256] : List Int) : List Int)).bind fun y155 => (if y155.length + x3.length < 140737488355328 then (switchbackref22_Digits.l0 k x0 (y155 ++ x3) (IntKind.u64.wrap (Int.tdiv x4 10))) else (none))) else (if x0 < 0 then (if 1 + (strOfNums x3).size ≤ 9223372036854775807 then (some ((⟨#[45]⟩ : ByteArray) ++ (strOfNums x3))) else (none)) else (some (strOfNums x3)))
end
def switchbackref22_Digits.f (k : Nat) (a0 : Int) : Option (ByteArray) := if a0 = 0 then (some (⟨#[48]⟩ : ByteArray)) else (if a0 < 0 then (switchbackref22_Digits.j0 k a0 ([] : List Int) (IntKind.u64.wrap (-(IntKind.u64.wrap (a0))))) else (switchbackref22_Digits.j0 k a0 ([] : List Int) (IntKind.u64.wrap (a0))))
theorem switchbackref22_Digits.mono_l : ∀ k, (∀ y0 y1 y2, LeO (switchbackref22_Digits.j0 k y0 y1 y2) (switchbackref22_Digits.j0 (k + 1) y0 y1 y2)) ∧ (∀ y0 y1 y2, LeO (switchbackref22_Digits.l0 k y0 y1 y2) (switchbackref22_Digits.l0 (k + 1) y0 y1 y2))
  | 0 => ⟨fun _ _ _ r h => by simp [switchbackref22_Digits.j0] at h, fun _ _ _ r h => by simp [switchbackref22_Digits.l0] at h⟩
  | k + 1 => by
    obtain ⟨ih0, ih1⟩ := switchbackref22_Digits.mono_l k
    refine ⟨?_, ?_⟩
    · intro y0 y1 y2
      unfold switchbackref22_Digits.j0
      repeat' first
      | (with_reducible exact ih0 _ _ _)
      | (with_reducible exact ih1 _ _ _)
      | (with_reducible exact LeO.refl _)
      | (with_reducible exact LeO.none _)
      | (with_reducible refine LeO.ite ?_ ?_)
      | (with_reducible refine LeO.bind ?_ (fun _ => ?_))
      | exact ih0 _ _ _
      | exact ih1 _ _ _
      | exact LeO.none _
      | refine LeO.ite ?_ ?_
      | refine LeO.bind ?_ (fun _ => ?_)
    · intro y0 y1 y2
      unfold switchbackref22_Digits.l0
      repeat' first
      | (with_reducible exact ih0 _ _ _)
      | (with_reducible exact ih1 _ _ _)
      | (with_reducible exact LeO.refl _)
      | (with_reducible exact LeO.none _)
      | (with_reducible refine LeO.ite ?_ ?_)
      | (with_reducible refine LeO.bind ?_ (fun _ => ?_))
      | exact ih0 _ _ _
      | exact ih1 _ _ _
      | exact LeO.none _
      | refine LeO.ite ?_ ?_
      | refine LeO.bind ?_ (fun _ => ?_)
theorem switchbackref22_Digits.mono : ∀ a0 k, LeO (switchbackref22_Digits.f k a0) (switchbackref22_Digits.f (k + 1) a0) := by
  intro a0 k
  obtain ⟨ih0, ih1⟩ := switchbackref22_Digits.mono_l k
  unfold switchbackref22_Digits.f
  repeat' first
      | (with_reducible exact ih0 _ _ _)
      | (with_reducible exact ih1 _ _ _)
      | (with_reducible exact LeO.refl _)
      | (with_reducible exact LeO.none _)
      | (with_reducible refine LeO.ite ?_ ?_)
      | (with_reducible refine LeO.bind ?_ (fun _ => ?_))
      | exact ih0 _ _ _
      | exact ih1 _ _ _
      | exact LeO.none _
      | refine LeO.ite ?_ ?_
      | refine LeO.bind ?_ (fun _ => ?_)
set_option maxHeartbeats 8000000 in
set_option maxRecDepth 100000 in
theorem switchbackref22_Digits.calls (k : Nat) (a0 : Int) (r : ByteArray) (w : World) (h : switchbackref22_Digits.f k a0 = some r) :
    Calls Tryz.prog 37 #[.int .i64 a0] w fun e w' => e = .returned (.string r) ∧ Below w.heap.size w w' := by
 have HB := uZ (Below.refl w.heap.size w)
 have H : (if a0 = 0 then (some (⟨#[48]⟩ : ByteArray)) else (if a0 < 0 then (switchbackref22_Digits.j0 k a0 ([] : List Int) (IntKind.u64.wrap (-(IntKind.u64.wrap (a0))))) else (switchbackref22_Digits.j0 k a0 ([] : List Int) (IntKind.u64.wrap (a0))))) = some r := h
 clear h
 by_cases c2 : a0 = 0
 ·rw [if_pos c2] at H
  have c2b0 : (a0 == 0) = true := beq_iff_eq.mpr c2
  have c2b1 : (a0 != 0) = false := bne_eq_false_iff_eq.mpr c2
  clear c2
  obtain rfl := Option.some.inj H
  go_enter Tryz.func37, Tryz.ntmps37
  go_wp2
  go_ret
  exact ⟨by first | rfl | (simp [errW_none, errW_some] <;> rfl) | (simp [*, errW_none, errW_some] <;> rfl), by repeat (first | (with_reducible first | exact HB.out | apply below_alloc | apply pw_below_drewN | apply below_drew1) | exact HB.out)⟩
 rw [if_neg c2] at H
 have c2b0 : (a0 == 0) = false := beq_eq_false_iff_ne.mpr c2
 have c2b1 : (a0 != 0) = true := bne_iff_ne.mpr c2
 have HC3 := uZ H
 clear H
 go_enter Tryz.func37, Tryz.ntmps37
 go_upto_if 10 with (fail)
 go_cut [4] (fun v4 wc => ∃ (kq : Nat) (a1 : Int), v4 = .int .u64 a1 ∧ Aside0 (switchbackref22_Digits.j0 kq a0 ([] : List Int) a1 = some r) ∧ Aside0 (kq ≤ k) ∧ Aside0 (Kd.R (Kd.int .u8) 5 wc w.heap.size (fun _ => True) (.slice none 0 0) ([] : List Int)) ∧ Aside0 (Below w.heap.size w wc))
 case first =>
  have H := HC3.out
  clear HC3
  by_cases c4 : a0 < 0
  ·rw [if_pos c4] at H
   have c4b0 : decide (a0 < 0) = true := decide_eq_true c4
   clear c4
   (first | rw [c4b0] | (simp only [i64_w, i32_w]; rw [c4b0]) | skip)
   have H' := uZ H
   clear H
   go_wp2
   go_meet
   case rel => exact ⟨_, (IntKind.u64.wrap (-(IntKind.u64.wrap (a0)))), (by first | rfl | (simp; done) | (simp [*]; done)), H', ⟨by first | omega | exact Nat.le_refl _⟩, ⟨by first | exact Kd.R_nil _ _ _ _ _ | exact Kd.N_nil _ _ _ _ _ | exact Kd.V_nil _ _ _ _ _ | exact Kd.Q_nil _ _ _ _ _ | exact Kd.S_nil _ _ _ _ _⟩, ⟨uB HB.out⟩⟩
  rw [if_neg c4] at H
  have c4b0 : decide (a0 < 0) = false := decide_eq_false c4
  clear c4
  (first | rw [c4b0] | (simp only [i64_w, i32_w]; rw [c4b0]) | skip)
  have H' := uZ H
  clear H
  go_wp2
  go_meet
  case rel => exact ⟨_, (IntKind.u64.wrap (a0)), (by first | rfl | (simp; done) | (simp [*]; done)), H', ⟨by first | omega | exact Nat.le_refl _⟩, ⟨by first | exact Kd.R_nil _ _ _ _ _ | exact Kd.N_nil _ _ _ _ _ | exact Kd.V_nil _ _ _ _ _ | exact Kd.Q_nil _ _ _ _ _ | exact Kd.S_nil _ _ _ _ _⟩, ⟨uB HB.out⟩⟩
 case rest =>
  clear HC3
  try clear c2
  try clear c2b0
  try clear c2b1
  try clear p2
  try clear c3
  try clear c4
  try clear c4b0
  obtain ⟨kq, a1, rfl, HA, HJ2, a2, HB⟩ := hcut
  cases kq with
  | zero => exact absurd HA.out (by simp [switchbackref22_Digits.j0])
  | succ kj2 =>
   have H := HA.out
   clear HA
   simp only [switchbackref22_Digits.j0] at H
   have H' := uZ H
   clear H
   go_wp2
   go_loopg [3, 4] kj2 (fun kq v3 v4 w' => ∃ (x3_2 : List Int) (a1 : Int), v4 = .int .u64 a1 ∧ Aside0 (switchbackref22_Digits.l0 kq a0 x3_2 a1 = some r) ∧ Aside0 (kq ≤ kj2) ∧ Aside0 (Kd.R (Kd.int .u8) 5 w' w.heap.size (fun _ => True) v3 x3_2) ∧ Aside0 (Below w.heap.size w w'))
   case atStart => exact ⟨(([] : List Int)), (a1), (by first | rfl | (simp; done) | (simp [*]; done)), H', ⟨Nat.le_refl _⟩, ⟨by (with_reducible repeat (first | apply zA | apply zB | apply Kd.R_drew)); exact a2.out⟩, ⟨uB HB.out⟩⟩
   case round =>
    clear H'
    try clear c2
    try clear c2b0
    try clear c2b1
    try clear p2
    try clear c3
    try clear c4
    try clear c4b0
    try clear p2
    obtain ⟨x3_2, a1, rfl, HA, HK2, a2, HB⟩ := hrel
    cases gk with
    | zero => exact absurd HA.out (by simp [switchbackref22_Digits.l0])
    | succ k2 =>
     have H := HA.out
     clear HA
     simp only [switchbackref22_Digits.l0] at H
     by_cases c5 : a1 > 0
     ·rw [if_pos c5] at H
      have c5b0 : decide (0 < a1) = true := decide_eq_true c5
      clear c5
      obtain ⟨y155, hy155⟩ : ∃ y_ : List Int, y_ = (([(IntKind.u64.wrap (48 + (Int.tmod a1 10))) % 256] : List Int)) := ⟨_, rfl⟩
      replace H : (if y155.length + x3_2.length < 140737488355328 then (switchbackref22_Digits.l0 k2 a0 (y155 ++ x3_2) (IntKind.u64.wrap (Int.tdiv a1 10))) else (none)) = some r := by first | (rw [hy155]; with_reducible exact H) | (have H2_ := (Option.bind_some _ _).symm.trans H; rw [hy155]; with_reducible exact H2_) | (have H2_ := (Option.bind_some _ _).symm.trans H; with_reducible exact H2_) | with_reducible exact H | (rw [hy155]; exact H) | exact H
      have Ny155 := uZ hy155
      clear hy155
      by_cases c6 : y155.length + x3_2.length < 140737488355328
      ·rw [if_pos c6] at H
       have LMc6 := uZ c6
       clear c6
       obtain ⟨y158, hy158⟩ : ∃ y_ : List Int, y_ = (y155 ++ x3_2) := ⟨_, rfl⟩
       replace H : (switchbackref22_Digits.l0 k2 a0 y158 (IntKind.u64.wrap (Int.tdiv a1 10))) = some r := by first | (rw [hy158]; with_reducible exact H) | (have H2_ := (Option.bind_some _ _).symm.trans H; rw [hy158]; with_reducible exact H2_) | (have H2_ := (Option.bind_some _ _).symm.trans H; with_reducible exact H2_) | with_reducible exact H | (rw [hy158]; exact H) | exact H
       have Ny158 := uZ hy158
       clear hy158
       have H' := uZ H
       clear H
       go_wp2_with (first | ((with_reducible refine gate_dst (N := 19) rfl ?_); refine Kd.R_lit (Kd.int .u8) _ 5 ?hg (N := 19) ?hd (xs := ([(IntKind.u64.wrap (48 + (Int.tmod a1 10))) % 256] : List Int)) (inner := [.int .u8 ((IntKind.u64.wrap (48 + (Int.tmod a1 10))) % 256)]) (ok := fun _ => True) (okp := fun _ => True) ?hr ?hp (fun _ hk => hk) trivial (Below.refl _ _) (Nat.le_refl _) (by simp) ?_; (case hd => rfl); (case hg => rfl); (case hr => first | (go_simp; done) | (go_simp; rfl)); (case hp => exact (Reps.one (show Kd.M (Kd.int .u8) _ _ _ ((IntKind.u64.wrap (48 + (Int.tmod a1 10))) % 256) [.int .u8 ((IntKind.u64.wrap (48 + (Int.tmod a1 10))) % 256)] from rfl) (Reps.none _ _))); intro v156 w7 ho8 hb hg_ hnew_; clear hg_ hnew_; (first | rw [← Ny155.out] at ho8 | (simp only [Int.reduceToNat] at ho8; rw [← Ny155.out] at ho8)); have n0_ := uZ (Kd.R_elder' (by (with_reducible repeat (first | apply zA | apply zB | apply Kd.R_drew)); exact a2.out) (Kd.R_base ho8) hb); have n1_ := uZ (Kd.R_lower (Kd.R_new' ho8 (Kd.R_lt (by (with_reducible repeat (first | apply zA | apply zB | apply Kd.R_drew)); exact a2.out))) (below_size (uB HB.out))); have n2_ := uZ (below_step (uB HB.out) hb); clear a2; clear HB; have a2 := n0_; have HO157 := n1_; have HB := n2_; clear n0_ n1_ n2_; clear hb ho8; obtain ⟨Ao10, co10, eo10⟩ := Kd.R_slice a2.out; subst eo10) | ((with_reducible refine gate_builtin (b := .append) (xs := #[.tmp 19, .tmp 20]) rfl ?_); at_builtin; refine Kd.R_append_rows (Kd.int .u8) (w0 := w) w.heap.size rfl (.tmp 19) (.tmp 20) 52 5 (.int .u8 0) 1 rfl Tryz.underlying52 info5 rfl (by decide) (by omega) v156 y155 x3_2 _ _ _ (fun k_ => some k_ ≠ (.slice Ao10 x3_2.length co10 : Value).ownBlock) (fun _ => False) rfl rfl ?aO ?aR (fun _ _ h => h) (fun _ h => h.elim) ?aF ?aB ?aS ?aL ?_; (case aR => repeat (first | exact (Kd.R_reads' a2.out).2.2 | (with_reducible refine Kd.C_alloc ?_ _) | (with_reducible refine Kd.C_drewN ?_ _) | (with_reducible refine Kd.C_drew ?_))); (case aB => exact (uB HB.out)); (case aF => exact (fun k_ hk => Kd.fresh' (Kd.R_lt (by (with_reducible repeat (first | apply zA | apply zB | apply Kd.R_drew)); exact a2.out)) k_ hk)); (case aO => exact (by (with_reducible repeat (first | apply zA | apply zB | apply Kd.R_drew)); exact Kd.R_mono HO157.out (fun _ hk => hk.2))); (case aS => exact (below_size (uB HB.out))); (case aL => have := LMc6.out; omega); intro v159 w9 ho hb hg hat; rw [← Ny158.out] at ho; have n0_ := uZ (Kd.R_after (ok := (fun _ => True)) (by (with_reducible repeat (first | apply zA | apply zB | apply Kd.R_drew)); exact a2.out) hg hat); have n1_ := uZ (hb); have n2_ := uZ (ho); clear a2; clear HB; clear HO157; have a2 := n0_; have HB := n1_; have HO160 := n2_; clear n0_ n1_ n2_; clear ho hb hg hat))
       go_roundg k2
       case measure => have := HJ2.out; have := HK2.out; omega
       case rel => exact ⟨(y158), (IntKind.u64.wrap (Int.tdiv a1 10)), (by first | rfl | (simp; done) | (simp [*]; done)), H', ⟨by have := HJ2.out; have := HK2.out; omega⟩, ⟨by (with_reducible repeat (first | apply zA | apply zB | apply Kd.R_drew)); exact Kd.R_mono HO160.out (fun _ hk => trivial)⟩, ⟨uB HB.out⟩⟩
      rw [if_neg c6] at H
      exact absurd H (by simp)
     rw [if_neg c5] at H
     have c5b0 : decide (0 < a1) = false := decide_eq_false c5
     clear c5
     by_cases c11 : a0 < 0
     ·rw [if_pos c11] at H
      have c11b0 : decide (a0 < 0) = true := decide_eq_true c11
      clear c11
      by_cases c12 : 1 + (strOfNums x3_2).size ≤ 9223372036854775807
      ·rw [if_pos c12] at H
       have c12b0 := eq_true c12
       have c12b1 : decide (1 + (strOfNums x3_2).size ≤ 9223372036854775807) = true := decide_eq_true c12
       try have c12b2 : (9223372036854775807 < 1 + (strOfNums x3_2).size) = False := eq_false (Nat.not_lt.2 c12)
       obtain rfl := Option.some.inj H
       have hcv13 := own_string (P := Tryz.prog) Tryz.underlying52 Tryz.underlying5 Tryz.underlying9 (Kd.own_of_R a2.out)
       go_wp2
       go_ret
       exact ⟨by first | rfl | (simp [errW_none, errW_some] <;> rfl) | (simp [*, errW_none, errW_some] <;> rfl), by repeat (first | (with_reducible first | exact HB.out | apply below_alloc | apply pw_below_drewN | apply below_drew1) | exact HB.out)⟩
      rw [if_neg c12] at H
      exact absurd H (by simp)
     rw [if_neg c11] at H
     have c11b0 : decide (a0 < 0) = false := decide_eq_false c11
     clear c11
     obtain rfl := Option.some.inj H
     have hcv14 := own_string (P := Tryz.prog) Tryz.underlying52 Tryz.underlying5 Tryz.underlying9 (Kd.own_of_R a2.out)
     go_wp2
     go_ret
     exact ⟨by first | rfl | (simp [errW_none, errW_some] <;> rfl) | (simp [*, errW_none, errW_some] <;> rfl), by repeat (first | (with_reducible first | exact HB.out | apply below_alloc | apply pw_below_drewN | apply below_drew1) | exact HB.out)⟩

end Go.Proofs.YtlhgfhmdhmgmpaaGreatDoor.PZ1

-- Written by gp.py for this claim.
namespace Go.Proofs.YtlhgfhmdhmgmpaaGreatDoor.PZ1
open Go.RowKit Go.Proofs.YtlhgfhmdhmgmpaaGreatDoorW.PrintWords Go.Proofs.YtlhgfhmdhmgmpaaGreatDoorW.PrintLast Go.Proofs.YtlhgfhmdhmgmpaaGreatDoorW.PrintMore
attribute [local go_sem] max2_int min2_int max_two min_two max_three min_three max_four min_four   -- for this text's walks alone
set_option linter.unusedVariables false
set_option linter.unusedSimpArgs false

/-! ### switchbackref16_Branch: function 79 -/
def switchbackref16_Branch.f (a0 : Int) : Option (Bool) := if a0 ≥ 30 then (some (decide (a0 ≤ 39))) else (some false)
set_option maxHeartbeats 8000000 in
set_option maxRecDepth 100000 in
theorem switchbackref16_Branch.calls (a0 : Int) (r : Bool) (w : World) (h : switchbackref16_Branch.f a0 = some r) :
    Calls Tryz.prog 79 #[.int .i64 a0] w fun e w' => e = .returned (.bool r) ∧ Drawn0 w w' := by
  have H : (if a0 ≥ 30 then (some (decide (a0 ≤ 39))) else (some false)) = some r := h
  clear h
  by_cases c2 : a0 ≥ 30
  · rw [if_pos c2] at H
    have c2b0 : decide (30 ≤ a0) = true := decide_eq_true c2
    clear c2
    obtain rfl := Option.some.inj H
    go_enter Tryz.func79, Tryz.ntmps79
    go_wp2
    go_ret
    exact ⟨by first | rfl | (simp; done) | (simp [*]; done), by repeat (first | exact Drawn0.refl _ | apply Drawn0.step)⟩
  · rw [if_neg c2] at H
    have c2b0 : decide (30 ≤ a0) = false := decide_eq_false c2
    clear c2
    obtain rfl := Option.some.inj H
    go_enter Tryz.func79, Tryz.ntmps79
    go_wp2
    go_ret
    exact ⟨by first | rfl | (simp; done) | (simp [*]; done), by repeat (first | exact Drawn0.refl _ | apply Drawn0.step)⟩

end Go.Proofs.YtlhgfhmdhmgmpaaGreatDoor.PZ1

-- Written by gp.py for this claim.
namespace Go.Proofs.YtlhgfhmdhmgmpaaGreatDoor.PZ1
open Go.RowKit Go.Proofs.YtlhgfhmdhmgmpaaGreatDoorW.PrintWords Go.Proofs.YtlhgfhmdhmgmpaaGreatDoorW.PrintLast Go.Proofs.YtlhgfhmdhmgmpaaGreatDoorW.PrintMore
attribute [local go_sem] max2_int min2_int max_two min_two max_three min_three max_four min_four   -- for this text's walks alone
set_option linter.unusedVariables false
set_option linter.unusedSimpArgs false

/-! ### switchbackref17_Branch: function 96 -/
def switchbackref17_Branch.f (a0_0 : Int) (a0_1 : Int) (a0_2 : Int) (a0_3 : Int) (a0_4 : Int) (a0_5 : Int) (l0_6 : List Int) : Option (Bool) := (switchbackref16_Branch.f a0_0).bind fun t144 => (if t144 = true then (some true) else (some (a0_0 == 40)))
set_option maxHeartbeats 8000000 in
set_option maxRecDepth 100000 in
theorem switchbackref17_Branch.calls (a0_0 : Int) (a0_1 : Int) (a0_2 : Int) (a0_3 : Int) (a0_4 : Int) (a0_5 : Int) (A0_6 : Option Addr) (c0_6 : Nat) (l0_6 : List Int) (r : Bool) (w : World) (hr0_6 : Kd.C (Kd.int .i64) w A0_6 l0_6.length l0_6) (hc0_6 : l0_6.length ≤ c0_6) (h : switchbackref17_Branch.f a0_0 a0_1 a0_2 a0_3 a0_4 a0_5 l0_6 = some r) :
    Calls Tryz.prog 96 #[.agg #[.int .i64 a0_0, .int .i64 a0_1, .int .i64 a0_2, .int .i64 a0_3, .int .u32 a0_4, .int .i64 a0_5, .slice A0_6 l0_6.length c0_6]] w fun e w' => e = .returned (.bool r) ∧ Below w.heap.size w w' := by
  have hu49 := Tryz.underlying49
  have HR0_6 := Aside0.mk hr0_6
  have HC0_6 := Aside0.mk hc0_6
  clear hr0_6 hc0_6
  have HB := Aside0.mk (Below.refl w.heap.size w)
  have H : ((switchbackref16_Branch.f a0_0).bind fun t144 => (if t144 = true then (some true) else (some (a0_0 == 40)))) = some r := h
  clear h
  replace H := Option.bind_eq_some_iff.mp H
  obtain ⟨t144, A20, H⟩ := H
  replace H : (if t144 = true then (some true) else (some (a0_0 == 40))) = some r := H
  have A2 := Aside0.mk A20
  clear A20
  by_cases c3 : t144 = true
  · subst c3
    have H1 : (some true) = some r := by rw [if_pos rfl] at H; exact H
    clear H
    have H := H1
    clear H1
    obtain rfl := Option.some.inj H
    go_enter Tryz.func96, Tryz.ntmps96
    go_wp2_with (first | ((with_reducible refine gate_dst (N := 1) rfl ?_); refine box_event ?hg (N := 1) ?hd (cs := #[.int .i64 a0_0, .int .i64 a0_1, .int .i64 a0_2, .int .i64 a0_3, .int .u32 a0_4, .int .i64 a0_5, .slice A0_6 l0_6.length c0_6]) (t := 49) ?hr ?_; (case hd => rfl); (case hg => rfl); (case hr => first | (go_simp; done) | (go_simp; rfl)); intro gb143 hg w4 hbox hb; have n0_ := Aside0.mk (below_step (by repeat (first | (with_reducible first | exact HB.out | apply below_alloc | apply pw_below_drewN | apply below_drew1) | exact HB.out)) hb); have n1_ := Aside0.mk (hbox); have n2_ := Aside0.mk ((by rw [hg]; exact (below_size (by repeat (first | (with_reducible first | exact HB.out | apply below_alloc | apply pw_below_drewN | apply below_drew1) | exact HB.out))) : w.heap.size ≤ gb143)); have n3_ := Aside0.mk ((by rw [hg]; exact (below_size (by repeat (first | (with_reducible first | exact HB.out | apply below_alloc | apply pw_below_drewN | apply below_drew1) | exact HB.out))) : w.heap.size ≤ gb143)); clear HB; have HB := n0_; have BK143 := n1_; have GW143 := n2_; have GE143 := n3_; clear n0_ n1_ n2_ n3_; clear hb hbox hg; have hcz5_0 : w4.cell? ⟨gb143, 0, none⟩ = some (.int .i64 a0_0) := (blk_cell BK143.out 0).trans rfl; have hcz5_1 : w4.cell? ⟨gb143, 1, none⟩ = some (.int .i64 a0_1) := (blk_cell BK143.out 1).trans rfl; have hcz5_2 : w4.cell? ⟨gb143, 2, none⟩ = some (.int .i64 a0_2) := (blk_cell BK143.out 2).trans rfl; have hcz5_3 : w4.cell? ⟨gb143, 3, none⟩ = some (.int .i64 a0_3) := (blk_cell BK143.out 3).trans rfl; have hcz5_4 : w4.cell? ⟨gb143, 4, none⟩ = some (.int .u32 a0_4) := (blk_cell BK143.out 4).trans rfl; have hcz5_5 : w4.cell? ⟨gb143, 5, none⟩ = some (.int .i64 a0_5) := (blk_cell BK143.out 5).trans rfl; have hcz5_6 : w4.cell? ⟨gb143, 6, none⟩ = some (.slice A0_6 l0_6.length c0_6) := (blk_cell BK143.out 6).trans rfl; have hfz5_0 := blk_frozen BK143.out 0; have hfz5_1 := blk_frozen BK143.out 1; have hfz5_2 := blk_frozen BK143.out 2; have hfz5_3 := blk_frozen BK143.out 3; have hfz5_4 := blk_frozen BK143.out 4; have hfz5_5 := blk_frozen BK143.out 5; have hfz5_6 := blk_frozen BK143.out 6) | ((with_reducible refine gate_callee (f := 79) rfl ?_); refine goesL_ (some 5) rfl rfl Tryz.func79 (by kernel_rfl) rfl #[.int .i64 a0_0] rfl (by (try simp only [List.map_toArray, List.map_cons, List.map_nil]); first | done | rfl | (simp only [List.length_drop, List.length_take]; rfl)) ?_; (with_reducible refine (switchbackref16_Branch.calls a0_0 true _ A2.out).mono ?_); rintro e w' ⟨rfl, ⟨nd, rfl⟩⟩; refine ⟨_, rfl, ?_⟩))
    go_ret
    exact ⟨by first | rfl | (simp [errW_none, errW_some] <;> rfl) | (simp [*, errW_none, errW_some] <;> rfl), by repeat (first | (with_reducible first | exact HB.out | apply below_alloc | apply pw_below_drewN | apply below_drew1 | refine below_set ?_ GE143.out) | exact HB.out)⟩
  · replace c3 := Bool.eq_false_iff.mpr c3
    subst c3
    have H1 : (some (a0_0 == 40)) = some r := by rw [if_neg (show ¬ (false = true) by decide)] at H; exact H
    clear H
    have H := H1
    clear H1
    obtain rfl := Option.some.inj H
    go_enter Tryz.func96, Tryz.ntmps96
    go_wp2_with (first | ((with_reducible refine gate_dst (N := 1) rfl ?_); refine box_event ?hg (N := 1) ?hd (cs := #[.int .i64 a0_0, .int .i64 a0_1, .int .i64 a0_2, .int .i64 a0_3, .int .u32 a0_4, .int .i64 a0_5, .slice A0_6 l0_6.length c0_6]) (t := 49) ?hr ?_; (case hd => rfl); (case hg => rfl); (case hr => first | (go_simp; done) | (go_simp; rfl)); intro gb143 hg w6 hbox hb; have n0_ := Aside0.mk (below_step (by repeat (first | (with_reducible first | exact HB.out | apply below_alloc | apply pw_below_drewN | apply below_drew1) | exact HB.out)) hb); have n1_ := Aside0.mk (hbox); have n2_ := Aside0.mk ((by rw [hg]; exact (below_size (by repeat (first | (with_reducible first | exact HB.out | apply below_alloc | apply pw_below_drewN | apply below_drew1) | exact HB.out))) : w.heap.size ≤ gb143)); have n3_ := Aside0.mk ((by rw [hg]; exact (below_size (by repeat (first | (with_reducible first | exact HB.out | apply below_alloc | apply pw_below_drewN | apply below_drew1) | exact HB.out))) : w.heap.size ≤ gb143)); clear HB; have HB := n0_; have BK143 := n1_; have GW143 := n2_; have GE143 := n3_; clear n0_ n1_ n2_ n3_; clear hb hbox hg; have hcz7_0 : w6.cell? ⟨gb143, 0, none⟩ = some (.int .i64 a0_0) := (blk_cell BK143.out 0).trans rfl; have hcz7_1 : w6.cell? ⟨gb143, 1, none⟩ = some (.int .i64 a0_1) := (blk_cell BK143.out 1).trans rfl; have hcz7_2 : w6.cell? ⟨gb143, 2, none⟩ = some (.int .i64 a0_2) := (blk_cell BK143.out 2).trans rfl; have hcz7_3 : w6.cell? ⟨gb143, 3, none⟩ = some (.int .i64 a0_3) := (blk_cell BK143.out 3).trans rfl; have hcz7_4 : w6.cell? ⟨gb143, 4, none⟩ = some (.int .u32 a0_4) := (blk_cell BK143.out 4).trans rfl; have hcz7_5 : w6.cell? ⟨gb143, 5, none⟩ = some (.int .i64 a0_5) := (blk_cell BK143.out 5).trans rfl; have hcz7_6 : w6.cell? ⟨gb143, 6, none⟩ = some (.slice A0_6 l0_6.length c0_6) := (blk_cell BK143.out 6).trans rfl; have hfz7_0 := blk_frozen BK143.out 0; have hfz7_1 := blk_frozen BK143.out 1; have hfz7_2 := blk_frozen BK143.out 2; have hfz7_3 := blk_frozen BK143.out 3; have hfz7_4 := blk_frozen BK143.out 4; have hfz7_5 := blk_frozen BK143.out 5; have hfz7_6 := blk_frozen BK143.out 6) | ((with_reducible refine gate_callee (f := 79) rfl ?_); refine goesL_ (some 5) rfl rfl Tryz.func79 (by kernel_rfl) rfl #[.int .i64 a0_0] rfl (by (try simp only [List.map_toArray, List.map_cons, List.map_nil]); first | done | rfl | (simp only [List.length_drop, List.length_take]; rfl)) ?_; (with_reducible refine (switchbackref16_Branch.calls a0_0 false _ A2.out).mono ?_); rintro e w' ⟨rfl, ⟨nd, rfl⟩⟩; refine ⟨_, rfl, ?_⟩))
    go_ret
    exact ⟨by first | rfl | (simp [errW_none, errW_some] <;> rfl) | (simp [*, errW_none, errW_some] <;> rfl), by repeat (first | (with_reducible first | exact HB.out | apply below_alloc | apply pw_below_drewN | apply below_drew1 | refine below_set ?_ GE143.out) | exact HB.out)⟩

end Go.Proofs.YtlhgfhmdhmgmpaaGreatDoor.PZ1

-- Written by gp.py for this claim.
namespace Go.Proofs.YtlhgfhmdhmgmpaaGreatDoor.PZ1
open Go.RowKit Go.Proofs.YtlhgfhmdhmgmpaaGreatDoorW.PrintWords Go.Proofs.YtlhgfhmdhmgmpaaGreatDoorW.PrintLast Go.Proofs.YtlhgfhmdhmgmpaaGreatDoorW.PrintMore
attribute [local go_sem] max2_int min2_int max_two min_two max_three min_three max_four min_four   -- for this text's walks alone
set_option linter.unusedVariables false
set_option linter.unusedSimpArgs false

namespace q_switchbackref17_Goes
theorem uZ {p : Prop} (h : p) : Aside0 p := ⟨h⟩
theorem uK {p q : Prop} (h : p) (g : p → q := by intro h; (with_reducible repeat (first | apply blk_drewN | apply blk_drew | apply blk_alloc)); exact h) : q := g h
theorem uB {p q : Prop} (h : p) (g : p → q := by intro h; repeat (first | (with_reducible first | exact h | apply below_alloc | apply pw_below_drewN | apply below_drew1) | exact h)) : q := g h
theorem uC {p q s : Prop} (h : p) (j : s) (g : p → s → q := by intro h j; repeat (first | (with_reducible first | exact h | apply below_alloc | apply pw_below_drewN | apply below_drew1 | refine below_set ?_ j) | exact h)) : q := g h j
theorem zA : type_of% @blk_frozen := @blk_frozen
theorem zB : type_of% @blk_cell := @blk_cell
end q_switchbackref17_Goes
open q_switchbackref17_Goes

/-! ### switchbackref17_Goes: function 56 -/
def switchbackref17_Goes.f (a0_0 : Int) (a0_1 : Int) (a0_2 : Int) (a0_3 : Int) (a0_4 : Int) (a0_5 : Int) (l0_6 : List Int) : Option (Bool) := (switchbackref17_Branch.f a0_0 a0_1 a0_2 a0_3 a0_4 a0_5 l0_6).bind fun t146 => (if t146 = true then (some true) else (if a0_0 = 41 then (some true) else (some (a0_0 == 43))))
set_option maxHeartbeats 8000000 in
set_option maxRecDepth 100000 in
theorem switchbackref17_Goes.calls (a0_0 : Int) (a0_1 : Int) (a0_2 : Int) (a0_3 : Int) (a0_4 : Int) (a0_5 : Int) (A0_6 : Option Addr) (c0_6 : Nat) (l0_6 : List Int) (r : Bool) (w : World) (hr0_6 : Kd.C (Kd.int .i64) w A0_6 l0_6.length l0_6) (hc0_6 : l0_6.length ≤ c0_6) (h : switchbackref17_Goes.f a0_0 a0_1 a0_2 a0_3 a0_4 a0_5 l0_6 = some r) :
    Calls Tryz.prog 56 #[.agg #[.int .i64 a0_0, .int .i64 a0_1, .int .i64 a0_2, .int .i64 a0_3, .int .u32 a0_4, .int .i64 a0_5, .slice A0_6 l0_6.length c0_6]] w fun e w' => e = .returned (.bool r) ∧ Below w.heap.size w w' := by
 have hu49 := Tryz.underlying49
 have HR0_6 := uZ hr0_6
 have HC0_6 := uZ hc0_6
 clear hr0_6 hc0_6
 have HB := uZ (Below.refl w.heap.size w)
 have H : ((switchbackref17_Branch.f a0_0 a0_1 a0_2 a0_3 a0_4 a0_5 l0_6).bind fun t146 => (if t146 = true then (some true) else (if a0_0 = 41 then (some true) else (some (a0_0 == 43))))) = some r := h
 clear h
 replace H := Option.bind_eq_some_iff.mp H
 obtain ⟨t146, A20, H⟩ := H
 replace H : (if t146 = true then (some true) else (if a0_0 = 41 then (some true) else (some (a0_0 == 43)))) = some r := H
 have A2 := uZ A20
 clear A20
 by_cases c3 : t146 = true
 ·subst c3
  have H1 : (some true) = some r := by rw [if_pos rfl] at H; exact H
  clear H
  have H := H1
  clear H1
  obtain rfl := Option.some.inj H
  go_enter Tryz.func56, Tryz.ntmps56
  go_wp2_with (first | ((with_reducible refine gate_dst (N := 1) rfl ?_); refine box_event ?hg (N := 1) ?hd (cs := #[.int .i64 a0_0, .int .i64 a0_1, .int .i64 a0_2, .int .i64 a0_3, .int .u32 a0_4, .int .i64 a0_5, .slice A0_6 l0_6.length c0_6]) (t := 49) ?hr ?_; (case hd => rfl); (case hg => rfl); (case hr => first | (go_simp; done) | (go_simp; rfl)); intro a1 hg w4 hbox hb; have n0_ := uZ (below_step (uB HB.out) hb); have n1_ := uZ (hbox); have n2_ := uZ ((by rw [hg]; exact (below_size (uB HB.out)) : w.heap.size ≤ a1)); have n3_ := uZ ((by rw [hg]; exact (below_size (uB HB.out)) : w.heap.size ≤ a1)); clear HB; have HB := n0_; have a0 := n1_; have GW145 := n2_; have GE145 := n3_; clear n0_ n1_ n2_ n3_; clear hb hbox hg; have hcz5_0 : w4.cell? ⟨a1, 0, none⟩ = some (.int .i64 a0_0) := (zB a0.out 0).trans rfl; have hcz5_1 : w4.cell? ⟨a1, 1, none⟩ = some (.int .i64 a0_1) := (zB a0.out 1).trans rfl; have hcz5_2 : w4.cell? ⟨a1, 2, none⟩ = some (.int .i64 a0_2) := (zB a0.out 2).trans rfl; have hcz5_3 : w4.cell? ⟨a1, 3, none⟩ = some (.int .i64 a0_3) := (zB a0.out 3).trans rfl; have hcz5_4 : w4.cell? ⟨a1, 4, none⟩ = some (.int .u32 a0_4) := (zB a0.out 4).trans rfl; have hcz5_5 : w4.cell? ⟨a1, 5, none⟩ = some (.int .i64 a0_5) := (zB a0.out 5).trans rfl; have hcz5_6 : w4.cell? ⟨a1, 6, none⟩ = some (.slice A0_6 l0_6.length c0_6) := (zB a0.out 6).trans rfl; have hfz5_0 := zA a0.out 0; have hfz5_1 := zA a0.out 1; have hfz5_2 := zA a0.out 2; have hfz5_3 := zA a0.out 3; have hfz5_4 := zA a0.out 4; have hfz5_5 := zA a0.out 5; have hfz5_6 := zA a0.out 6) | ((with_reducible refine gate_callee (f := 96) rfl ?_); refine goesL_ (some 4) rfl rfl Tryz.func96 (by kernel_rfl) rfl #[.agg #[.int .i64 a0_0, .int .i64 a0_1, .int .i64 a0_2, .int .i64 a0_3, .int .u32 a0_4, .int .i64 a0_5, .slice A0_6 l0_6.length c0_6]] rfl (by (try simp only [List.map_toArray, List.map_cons, List.map_nil]); first | done | rfl | (simp only [List.length_drop, List.length_take]; rfl)) ?_; (with_reducible refine (switchbackref17_Branch.calls a0_0 a0_1 a0_2 a0_3 a0_4 a0_5 _ _ l0_6 true _ ?side1 ?side2 A2.out).mono ?_); (case side1 => repeat (first | exact (Kd.C_below HR0_6.out HB.out) | (with_reducible refine Kd.C_alloc ?_ _) | (with_reducible refine Kd.C_drewN ?_ _) | (with_reducible refine Kd.C_drew ?_))); (case side2 => exact HC0_6.out); rintro e w6 ⟨rfl, hb⟩; refine ⟨_, rfl, ?_⟩; have n0_ := uZ (blk_below (g := a1) (o := .cells #[.int .i64 a0_0, .int .i64 a0_1, .int .i64 a0_2, .int .i64 a0_3, .int .u32 a0_4, .int .i64 a0_5, .slice A0_6 l0_6.length c0_6] 49 (0, 0)) (uK a0.out) hb); have n1_ := uZ (below_step (uC HB.out GE145.out) hb); clear a0; clear HB; have a0 := n0_; have HB := n1_; clear n0_ n1_; (try clear hb); (try clear hb2); (try clear hk); (try clear hi)))
  go_ret
  exact ⟨by first | rfl | (simp [errW_none, errW_some] <;> rfl) | (simp [*, errW_none, errW_some] <;> rfl), by repeat (first | (with_reducible first | exact HB.out | apply below_alloc | apply pw_below_drewN | apply below_drew1 | refine below_set ?_ GE145.out) | exact HB.out)⟩
 replace c3 := Bool.eq_false_iff.mpr c3
 subst c3
 have H1 : (if a0_0 = 41 then (some true) else (some (a0_0 == 43))) = some r := by rw [if_neg (show ¬ (false = true) by decide)] at H; exact H
 clear H
 have H := H1
 clear H1
 by_cases c7 : a0_0 = 41
 ·rw [if_pos c7] at H
  have c7b0 : (a0_0 == 41) = true := beq_iff_eq.mpr c7
  have c7b1 : (a0_0 != 41) = false := bne_eq_false_iff_eq.mpr c7
  clear c7
  obtain rfl := Option.some.inj H
  go_enter Tryz.func56, Tryz.ntmps56
  go_wp2_with (first | ((with_reducible refine gate_dst (N := 1) rfl ?_); refine box_event ?hg (N := 1) ?hd (cs := #[.int .i64 a0_0, .int .i64 a0_1, .int .i64 a0_2, .int .i64 a0_3, .int .u32 a0_4, .int .i64 a0_5, .slice A0_6 l0_6.length c0_6]) (t := 49) ?hr ?_; (case hd => rfl); (case hg => rfl); (case hr => first | (go_simp; done) | (go_simp; rfl)); intro a1 hg w8 hbox hb; have n0_ := uZ (below_step (uB HB.out) hb); have n1_ := uZ (hbox); have n2_ := uZ ((by rw [hg]; exact (below_size (uB HB.out)) : w.heap.size ≤ a1)); have n3_ := uZ ((by rw [hg]; exact (below_size (uB HB.out)) : w.heap.size ≤ a1)); clear HB; have HB := n0_; have a0 := n1_; have GW145 := n2_; have GE145 := n3_; clear n0_ n1_ n2_ n3_; clear hb hbox hg; have hcz9_0 : w8.cell? ⟨a1, 0, none⟩ = some (.int .i64 a0_0) := (zB a0.out 0).trans rfl; have hcz9_1 : w8.cell? ⟨a1, 1, none⟩ = some (.int .i64 a0_1) := (zB a0.out 1).trans rfl; have hcz9_2 : w8.cell? ⟨a1, 2, none⟩ = some (.int .i64 a0_2) := (zB a0.out 2).trans rfl; have hcz9_3 : w8.cell? ⟨a1, 3, none⟩ = some (.int .i64 a0_3) := (zB a0.out 3).trans rfl; have hcz9_4 : w8.cell? ⟨a1, 4, none⟩ = some (.int .u32 a0_4) := (zB a0.out 4).trans rfl; have hcz9_5 : w8.cell? ⟨a1, 5, none⟩ = some (.int .i64 a0_5) := (zB a0.out 5).trans rfl; have hcz9_6 : w8.cell? ⟨a1, 6, none⟩ = some (.slice A0_6 l0_6.length c0_6) := (zB a0.out 6).trans rfl; have hfz9_0 := zA a0.out 0; have hfz9_1 := zA a0.out 1; have hfz9_2 := zA a0.out 2; have hfz9_3 := zA a0.out 3; have hfz9_4 := zA a0.out 4; have hfz9_5 := zA a0.out 5; have hfz9_6 := zA a0.out 6) | ((with_reducible refine gate_callee (f := 96) rfl ?_); refine goesL_ (some 4) rfl rfl Tryz.func96 (by kernel_rfl) rfl #[.agg #[.int .i64 a0_0, .int .i64 a0_1, .int .i64 a0_2, .int .i64 a0_3, .int .u32 a0_4, .int .i64 a0_5, .slice A0_6 l0_6.length c0_6]] rfl (by (try simp only [List.map_toArray, List.map_cons, List.map_nil]); first | done | rfl | (simp only [List.length_drop, List.length_take]; rfl)) ?_; (with_reducible refine (switchbackref17_Branch.calls a0_0 a0_1 a0_2 a0_3 a0_4 a0_5 _ _ l0_6 false _ ?side1 ?side2 A2.out).mono ?_); (case side1 => repeat (first | exact (Kd.C_below HR0_6.out HB.out) | (with_reducible refine Kd.C_alloc ?_ _) | (with_reducible refine Kd.C_drewN ?_ _) | (with_reducible refine Kd.C_drew ?_))); (case side2 => exact HC0_6.out); rintro e w10 ⟨rfl, hb⟩; refine ⟨_, rfl, ?_⟩; have n0_ := uZ (blk_below (g := a1) (o := .cells #[.int .i64 a0_0, .int .i64 a0_1, .int .i64 a0_2, .int .i64 a0_3, .int .u32 a0_4, .int .i64 a0_5, .slice A0_6 l0_6.length c0_6] 49 (0, 0)) (uK a0.out) hb); have n1_ := uZ (below_step (uC HB.out GE145.out) hb); clear a0; clear HB; have a0 := n0_; have HB := n1_; clear n0_ n1_; (try clear hb); (try clear hb2); (try clear hk); (try clear hi); have hcz11_0 : w10.cell? ⟨a1, 0, none⟩ = some (.int .i64 a0_0) := (zB a0.out 0).trans rfl; have hcz11_1 : w10.cell? ⟨a1, 1, none⟩ = some (.int .i64 a0_1) := (zB a0.out 1).trans rfl; have hcz11_2 : w10.cell? ⟨a1, 2, none⟩ = some (.int .i64 a0_2) := (zB a0.out 2).trans rfl; have hcz11_3 : w10.cell? ⟨a1, 3, none⟩ = some (.int .i64 a0_3) := (zB a0.out 3).trans rfl; have hcz11_4 : w10.cell? ⟨a1, 4, none⟩ = some (.int .u32 a0_4) := (zB a0.out 4).trans rfl; have hcz11_5 : w10.cell? ⟨a1, 5, none⟩ = some (.int .i64 a0_5) := (zB a0.out 5).trans rfl; have hcz11_6 : w10.cell? ⟨a1, 6, none⟩ = some (.slice A0_6 l0_6.length c0_6) := (zB a0.out 6).trans rfl; have hfz11_0 := zA a0.out 0; have hfz11_1 := zA a0.out 1; have hfz11_2 := zA a0.out 2; have hfz11_3 := zA a0.out 3; have hfz11_4 := zA a0.out 4; have hfz11_5 := zA a0.out 5; have hfz11_6 := zA a0.out 6))
  go_ret
  exact ⟨by first | rfl | (simp [errW_none, errW_some] <;> rfl) | (simp [*, errW_none, errW_some] <;> rfl), by repeat (first | (with_reducible first | exact HB.out | apply below_alloc | apply pw_below_drewN | apply below_drew1 | refine below_set ?_ GE145.out) | exact HB.out)⟩
 rw [if_neg c7] at H
 have c7b0 : (a0_0 == 41) = false := beq_eq_false_iff_ne.mpr c7
 have c7b1 : (a0_0 != 41) = true := bne_iff_ne.mpr c7
 obtain rfl := Option.some.inj H
 go_enter Tryz.func56, Tryz.ntmps56
 go_wp2_with (first | ((with_reducible refine gate_dst (N := 1) rfl ?_); refine box_event ?hg (N := 1) ?hd (cs := #[.int .i64 a0_0, .int .i64 a0_1, .int .i64 a0_2, .int .i64 a0_3, .int .u32 a0_4, .int .i64 a0_5, .slice A0_6 l0_6.length c0_6]) (t := 49) ?hr ?_; (case hd => rfl); (case hg => rfl); (case hr => first | (go_simp; done) | (go_simp; rfl)); intro a1 hg w12 hbox hb; have n0_ := uZ (below_step (uB HB.out) hb); have n1_ := uZ (hbox); have n2_ := uZ ((by rw [hg]; exact (below_size (uB HB.out)) : w.heap.size ≤ a1)); have n3_ := uZ ((by rw [hg]; exact (below_size (uB HB.out)) : w.heap.size ≤ a1)); clear HB; have HB := n0_; have a0 := n1_; have GW145 := n2_; have GE145 := n3_; clear n0_ n1_ n2_ n3_; clear hb hbox hg; have hcz13_0 : w12.cell? ⟨a1, 0, none⟩ = some (.int .i64 a0_0) := (zB a0.out 0).trans rfl; have hcz13_1 : w12.cell? ⟨a1, 1, none⟩ = some (.int .i64 a0_1) := (zB a0.out 1).trans rfl; have hcz13_2 : w12.cell? ⟨a1, 2, none⟩ = some (.int .i64 a0_2) := (zB a0.out 2).trans rfl; have hcz13_3 : w12.cell? ⟨a1, 3, none⟩ = some (.int .i64 a0_3) := (zB a0.out 3).trans rfl; have hcz13_4 : w12.cell? ⟨a1, 4, none⟩ = some (.int .u32 a0_4) := (zB a0.out 4).trans rfl; have hcz13_5 : w12.cell? ⟨a1, 5, none⟩ = some (.int .i64 a0_5) := (zB a0.out 5).trans rfl; have hcz13_6 : w12.cell? ⟨a1, 6, none⟩ = some (.slice A0_6 l0_6.length c0_6) := (zB a0.out 6).trans rfl; have hfz13_0 := zA a0.out 0; have hfz13_1 := zA a0.out 1; have hfz13_2 := zA a0.out 2; have hfz13_3 := zA a0.out 3; have hfz13_4 := zA a0.out 4; have hfz13_5 := zA a0.out 5; have hfz13_6 := zA a0.out 6) | ((with_reducible refine gate_callee (f := 96) rfl ?_); refine goesL_ (some 4) rfl rfl Tryz.func96 (by kernel_rfl) rfl #[.agg #[.int .i64 a0_0, .int .i64 a0_1, .int .i64 a0_2, .int .i64 a0_3, .int .u32 a0_4, .int .i64 a0_5, .slice A0_6 l0_6.length c0_6]] rfl (by (try simp only [List.map_toArray, List.map_cons, List.map_nil]); first | done | rfl | (simp only [List.length_drop, List.length_take]; rfl)) ?_; (with_reducible refine (switchbackref17_Branch.calls a0_0 a0_1 a0_2 a0_3 a0_4 a0_5 _ _ l0_6 false _ ?side1 ?side2 A2.out).mono ?_); (case side1 => repeat (first | exact (Kd.C_below HR0_6.out HB.out) | (with_reducible refine Kd.C_alloc ?_ _) | (with_reducible refine Kd.C_drewN ?_ _) | (with_reducible refine Kd.C_drew ?_))); (case side2 => exact HC0_6.out); rintro e w14 ⟨rfl, hb⟩; refine ⟨_, rfl, ?_⟩; have n0_ := uZ (blk_below (g := a1) (o := .cells #[.int .i64 a0_0, .int .i64 a0_1, .int .i64 a0_2, .int .i64 a0_3, .int .u32 a0_4, .int .i64 a0_5, .slice A0_6 l0_6.length c0_6] 49 (0, 0)) (uK a0.out) hb); have n1_ := uZ (below_step (uC HB.out GE145.out) hb); clear a0; clear HB; have a0 := n0_; have HB := n1_; clear n0_ n1_; (try clear hb); (try clear hb2); (try clear hk); (try clear hi); have hcz15_0 : w14.cell? ⟨a1, 0, none⟩ = some (.int .i64 a0_0) := (zB a0.out 0).trans rfl; have hcz15_1 : w14.cell? ⟨a1, 1, none⟩ = some (.int .i64 a0_1) := (zB a0.out 1).trans rfl; have hcz15_2 : w14.cell? ⟨a1, 2, none⟩ = some (.int .i64 a0_2) := (zB a0.out 2).trans rfl; have hcz15_3 : w14.cell? ⟨a1, 3, none⟩ = some (.int .i64 a0_3) := (zB a0.out 3).trans rfl; have hcz15_4 : w14.cell? ⟨a1, 4, none⟩ = some (.int .u32 a0_4) := (zB a0.out 4).trans rfl; have hcz15_5 : w14.cell? ⟨a1, 5, none⟩ = some (.int .i64 a0_5) := (zB a0.out 5).trans rfl; have hcz15_6 : w14.cell? ⟨a1, 6, none⟩ = some (.slice A0_6 l0_6.length c0_6) := (zB a0.out 6).trans rfl; have hfz15_0 := zA a0.out 0; have hfz15_1 := zA a0.out 1; have hfz15_2 := zA a0.out 2; have hfz15_3 := zA a0.out 3; have hfz15_4 := zA a0.out 4; have hfz15_5 := zA a0.out 5; have hfz15_6 := zA a0.out 6))
 go_ret
 exact ⟨by first | rfl | (simp [errW_none, errW_some] <;> rfl) | (simp [*, errW_none, errW_some] <;> rfl), by repeat (first | (with_reducible first | exact HB.out | apply below_alloc | apply pw_below_drewN | apply below_drew1 | refine below_set ?_ GE145.out) | exact HB.out)⟩

end Go.Proofs.YtlhgfhmdhmgmpaaGreatDoor.PZ1

-- Written by gp.py for this claim.
namespace Go.Proofs.YtlhgfhmdhmgmpaaGreatDoor.PZ1
open Go.RowKit Go.Proofs.YtlhgfhmdhmgmpaaGreatDoorW.PrintWords Go.Proofs.YtlhgfhmdhmgmpaaGreatDoorW.PrintLast Go.Proofs.YtlhgfhmdhmgmpaaGreatDoorW.PrintMore
attribute [local go_sem] max2_int min2_int max_two min_two max_three min_three max_four min_four   -- for this text's walks alone
set_option linter.unusedVariables false
set_option linter.unusedSimpArgs false

namespace q_switchbackref22_registers
theorem uZ {p : Prop} (h : p) : Aside0 p := ⟨h⟩
end q_switchbackref22_registers
open q_switchbackref22_registers

/-! ### switchbackref22_registers: function 67 -/
mutual
def switchbackref22_registers.j0 : Nat → Int → Bool → Option (Int)
  | 0, _, _ => none
  | k + 1, x0, x3 => if x3 = true then (some 1) else (if x0 = 40 then (switchbackref22_registers.j1 k true) else (if x0 = 41 then (switchbackref22_registers.j1 k true) else (if x0 = 43 then (switchbackref22_registers.j1 k true) else (if x0 = 44 then (switchbackref22_registers.j1 k true) else (switchbackref22_registers.j1 k (x0 == 48))))))
def switchbackref22_registers.j1 : Nat → Bool → Option (Int)
  | 0, _ => none
  | k + 1, x26 => if x26 = true then (some 0) else (some 2)
end
def switchbackref22_registers.f (k : Nat) (a0 : Int) : Option (Int) := if a0 = 1 then (switchbackref22_registers.j0 k a0 true) else (if a0 = 2 then (switchbackref22_registers.j0 k a0 true) else (if a0 = 42 then (switchbackref22_registers.j0 k a0 true) else (if a0 = 45 then (switchbackref22_registers.j0 k a0 true) else (if a0 = 46 then (switchbackref22_registers.j0 k a0 true) else (switchbackref22_registers.j0 k a0 (a0 == 47))))))
theorem switchbackref22_registers.mono_l : ∀ k, (∀ y0 y1, LeO (switchbackref22_registers.j0 k y0 y1) (switchbackref22_registers.j0 (k + 1) y0 y1)) ∧ (∀ y0, LeO (switchbackref22_registers.j1 k y0) (switchbackref22_registers.j1 (k + 1) y0))
  | 0 => ⟨fun _ _ r h => by simp [switchbackref22_registers.j0] at h, fun _ r h => by simp [switchbackref22_registers.j1] at h⟩
  | k + 1 => by
    obtain ⟨ih0, ih1⟩ := switchbackref22_registers.mono_l k
    refine ⟨?_, ?_⟩
    · intro y0 y1
      unfold switchbackref22_registers.j0
      repeat' first
      | (with_reducible exact ih0 _ _)
      | (with_reducible exact ih1 _)
      | (with_reducible exact LeO.refl _)
      | (with_reducible exact LeO.none _)
      | (with_reducible refine LeO.ite ?_ ?_)
      | (with_reducible refine LeO.bind ?_ (fun _ => ?_))
      | exact ih0 _ _
      | exact ih1 _
      | exact LeO.none _
      | refine LeO.ite ?_ ?_
      | refine LeO.bind ?_ (fun _ => ?_)
    · intro y0
      unfold switchbackref22_registers.j1
      repeat' first
      | (with_reducible exact ih0 _ _)
      | (with_reducible exact ih1 _)
      | (with_reducible exact LeO.refl _)
      | (with_reducible exact LeO.none _)
      | (with_reducible refine LeO.ite ?_ ?_)
      | (with_reducible refine LeO.bind ?_ (fun _ => ?_))
      | exact ih0 _ _
      | exact ih1 _
      | exact LeO.none _
      | refine LeO.ite ?_ ?_
      | refine LeO.bind ?_ (fun _ => ?_)
theorem switchbackref22_registers.mono : ∀ a0 k, LeO (switchbackref22_registers.f k a0) (switchbackref22_registers.f (k + 1) a0) := by
  intro a0 k
  obtain ⟨ih0, ih1⟩ := switchbackref22_registers.mono_l k
  unfold switchbackref22_registers.f
  repeat' first
      | (with_reducible exact ih0 _ _)
      | (with_reducible exact ih1 _)
      | (with_reducible exact LeO.refl _)
      | (with_reducible exact LeO.none _)
      | (with_reducible refine LeO.ite ?_ ?_)
      | (with_reducible refine LeO.bind ?_ (fun _ => ?_))
      | exact ih0 _ _
      | exact ih1 _
      | exact LeO.none _
      | refine LeO.ite ?_ ?_
      | refine LeO.bind ?_ (fun _ => ?_)
set_option maxHeartbeats 8000000 in
set_option maxRecDepth 100000 in
theorem switchbackref22_registers.calls (k : Nat) (a0 : Int) (r : Int) (w : World) (h : switchbackref22_registers.f k a0 = some r) :
    Calls Tryz.prog 67 #[.int .i64 a0] w fun e w' => e = .returned (.int .i64 r) ∧ Drawn0 w w' := by
 have H : (if a0 = 1 then (switchbackref22_registers.j0 k a0 true) else (if a0 = 2 then (switchbackref22_registers.j0 k a0 true) else (if a0 = 42 then (switchbackref22_registers.j0 k a0 true) else (if a0 = 45 then (switchbackref22_registers.j0 k a0 true) else (if a0 = 46 then (switchbackref22_registers.j0 k a0 true) else (switchbackref22_registers.j0 k a0 (a0 == 47))))))) = some r := h
 clear h
 have HC2 := uZ H
 clear H
 go_enter Tryz.func67, Tryz.ntmps67
 go_upto_region 1 with (fail)
 go_cut [3] (fun v3 wc => ∃ (kq : Nat) (x3_1 : Bool), v3 = .bool x3_1 ∧ Aside0 (switchbackref22_registers.j0 kq a0 x3_1 = some r) ∧ Aside0 (kq ≤ k) ∧ Drawn0 w wc)
 case first =>
  have H := HC2.out
  clear HC2
  by_cases c3 : a0 = 1
  ·rw [if_pos c3] at H
   have c3b0 : (a0 == 1) = true := beq_iff_eq.mpr c3
   have c3b1 : (a0 != 1) = false := bne_eq_false_iff_eq.mpr c3
   clear c3
   (first | rw [c3b0] | (simp only [i64_w, i32_w]; rw [c3b0]) | skip)
   have H' := uZ H
   clear H
   go_wp2
   go_meet
   case rel => exact ⟨_, (true), (by first | rfl | (simp; done) | (simp [*]; done)), H', ⟨by first | omega | exact Nat.le_refl _⟩, by repeat (first | exact Drawn0.refl _ | apply Drawn0.step)⟩
  rw [if_neg c3] at H
  have c3b0 : (a0 == 1) = false := beq_eq_false_iff_ne.mpr c3
  have c3b1 : (a0 != 1) = true := bne_iff_ne.mpr c3
  (first | rw [c3b0] | (simp only [i64_w, i32_w]; rw [c3b0]) | skip)
  by_cases c4 : a0 = 2
  ·rw [if_pos c4] at H
   have c4b0 : (a0 == 2) = true := beq_iff_eq.mpr c4
   have c4b1 : (a0 != 2) = false := bne_eq_false_iff_eq.mpr c4
   clear c4
   have H' := uZ H
   clear H
   go_wp2
   go_meet
   case rel => exact ⟨_, (true), (by first | rfl | (simp; done) | (simp [*]; done)), H', ⟨by first | omega | exact Nat.le_refl _⟩, by repeat (first | exact Drawn0.refl _ | apply Drawn0.step)⟩
  rw [if_neg c4] at H
  have c4b0 : (a0 == 2) = false := beq_eq_false_iff_ne.mpr c4
  have c4b1 : (a0 != 2) = true := bne_iff_ne.mpr c4
  by_cases c5 : a0 = 42
  ·rw [if_pos c5] at H
   have c5b0 : (a0 == 42) = true := beq_iff_eq.mpr c5
   have c5b1 : (a0 != 42) = false := bne_eq_false_iff_eq.mpr c5
   clear c5
   have H' := uZ H
   clear H
   go_wp2
   go_meet
   case rel => exact ⟨_, (true), (by first | rfl | (simp; done) | (simp [*]; done)), H', ⟨by first | omega | exact Nat.le_refl _⟩, by repeat (first | exact Drawn0.refl _ | apply Drawn0.step)⟩
  rw [if_neg c5] at H
  have c5b0 : (a0 == 42) = false := beq_eq_false_iff_ne.mpr c5
  have c5b1 : (a0 != 42) = true := bne_iff_ne.mpr c5
  by_cases c6 : a0 = 45
  ·rw [if_pos c6] at H
   have c6b0 : (a0 == 45) = true := beq_iff_eq.mpr c6
   have c6b1 : (a0 != 45) = false := bne_eq_false_iff_eq.mpr c6
   clear c6
   have H' := uZ H
   clear H
   go_wp2
   go_meet
   case rel => exact ⟨_, (true), (by first | rfl | (simp; done) | (simp [*]; done)), H', ⟨by first | omega | exact Nat.le_refl _⟩, by repeat (first | exact Drawn0.refl _ | apply Drawn0.step)⟩
  rw [if_neg c6] at H
  have c6b0 : (a0 == 45) = false := beq_eq_false_iff_ne.mpr c6
  have c6b1 : (a0 != 45) = true := bne_iff_ne.mpr c6
  by_cases c7 : a0 = 46
  ·rw [if_pos c7] at H
   have c7b0 : (a0 == 46) = true := beq_iff_eq.mpr c7
   have c7b1 : (a0 != 46) = false := bne_eq_false_iff_eq.mpr c7
   clear c7
   have H' := uZ H
   clear H
   go_wp2
   go_meet
   case rel => exact ⟨_, (true), (by first | rfl | (simp; done) | (simp [*]; done)), H', ⟨by first | omega | exact Nat.le_refl _⟩, by repeat (first | exact Drawn0.refl _ | apply Drawn0.step)⟩
  rw [if_neg c7] at H
  have c7b0 : (a0 == 46) = false := beq_eq_false_iff_ne.mpr c7
  have c7b1 : (a0 != 46) = true := bne_iff_ne.mpr c7
  have H' := uZ H
  clear H
  go_wp2
  go_meet
  case rel => exact ⟨_, ((a0 == 47)), (by first | rfl | (simp; done) | (simp [*]; done)), H', ⟨by first | omega | exact Nat.le_refl _⟩, by repeat (first | exact Drawn0.refl _ | apply Drawn0.step)⟩
 case rest =>
  clear HC2
  try clear p2
  try clear c3
  try clear c3b0
  try clear c3b1
  try clear c4
  try clear c4b0
  try clear c4b1
  try clear c5
  try clear c5b0
  try clear c5b1
  try clear c6
  try clear c6b0
  try clear c6b1
  try clear c7
  try clear c7b0
  try clear c7b1
  obtain ⟨kq, x3_1, rfl, HA, HJ1, ⟨mc1, rfl⟩⟩ := hcut
  cases kq with
  | zero => exact absurd HA.out (by simp [switchbackref22_registers.j0])
  | succ kj1 =>
   have H := HA.out
   clear HA
   simp only [switchbackref22_registers.j0] at H
   by_cases c8 : x3_1 = true
   ·subst c8
    have H1 : (some 1) = some r := by rw [if_pos rfl] at H; exact H
    clear H
    have H := H1
    clear H1
    obtain rfl := Option.some.inj H
    go_wp2
    go_ret
    exact ⟨by first | rfl | (simp; done) | (simp [*]; done), by repeat (first | exact Drawn0.refl _ | apply Drawn0.step)⟩
   replace c8 := Bool.eq_false_iff.mpr c8
   subst c8
   have H1 : (if a0 = 40 then (switchbackref22_registers.j1 kj1 true) else (if a0 = 41 then (switchbackref22_registers.j1 kj1 true) else (if a0 = 43 then (switchbackref22_registers.j1 kj1 true) else (if a0 = 44 then (switchbackref22_registers.j1 kj1 true) else (switchbackref22_registers.j1 kj1 (a0 == 48)))))) = some r := by rw [if_neg (show ¬ (false = true) by decide)] at H; exact H
   clear H
   have H := H1
   clear H1
   have HC9 := uZ H
   clear H
   go_upto_region 3 with (fail)
   go_cut [26] (fun v26 wc => ∃ (kq : Nat) (x26_8 : Bool), v26 = .bool x26_8 ∧ Aside0 (switchbackref22_registers.j1 kq x26_8 = some r) ∧ Aside0 (kq ≤ kj1) ∧ Drawn0 w wc)
   case first =>
    have H := HC9.out
    clear HC9
    by_cases c10 : a0 = 40
    ·rw [if_pos c10] at H
     have c10b0 : (a0 == 40) = true := beq_iff_eq.mpr c10
     have c10b1 : (a0 != 40) = false := bne_eq_false_iff_eq.mpr c10
     clear c10
     (first | rw [c10b0] | (simp only [i64_w, i32_w]; rw [c10b0]) | skip)
     have H' := uZ H
     clear H
     go_wp2
     go_meet
     case rel => exact ⟨_, (true), (by first | rfl | (simp; done) | (simp [*]; done)), H', ⟨by have := HJ1.out; first | omega | exact Nat.le_refl _⟩, by repeat (first | exact Drawn0.refl _ | apply Drawn0.step)⟩
    rw [if_neg c10] at H
    have c10b0 : (a0 == 40) = false := beq_eq_false_iff_ne.mpr c10
    have c10b1 : (a0 != 40) = true := bne_iff_ne.mpr c10
    (first | rw [c10b0] | (simp only [i64_w, i32_w]; rw [c10b0]) | skip)
    by_cases c11 : a0 = 41
    ·rw [if_pos c11] at H
     have c11b0 : (a0 == 41) = true := beq_iff_eq.mpr c11
     have c11b1 : (a0 != 41) = false := bne_eq_false_iff_eq.mpr c11
     clear c11
     have H' := uZ H
     clear H
     go_wp2
     go_meet
     case rel => exact ⟨_, (true), (by first | rfl | (simp; done) | (simp [*]; done)), H', ⟨by have := HJ1.out; first | omega | exact Nat.le_refl _⟩, by repeat (first | exact Drawn0.refl _ | apply Drawn0.step)⟩
    rw [if_neg c11] at H
    have c11b0 : (a0 == 41) = false := beq_eq_false_iff_ne.mpr c11
    have c11b1 : (a0 != 41) = true := bne_iff_ne.mpr c11
    by_cases c12 : a0 = 43
    ·rw [if_pos c12] at H
     have c12b0 : (a0 == 43) = true := beq_iff_eq.mpr c12
     have c12b1 : (a0 != 43) = false := bne_eq_false_iff_eq.mpr c12
     clear c12
     have H' := uZ H
     clear H
     go_wp2
     go_meet
     case rel => exact ⟨_, (true), (by first | rfl | (simp; done) | (simp [*]; done)), H', ⟨by have := HJ1.out; first | omega | exact Nat.le_refl _⟩, by repeat (first | exact Drawn0.refl _ | apply Drawn0.step)⟩
    rw [if_neg c12] at H
    have c12b0 : (a0 == 43) = false := beq_eq_false_iff_ne.mpr c12
    have c12b1 : (a0 != 43) = true := bne_iff_ne.mpr c12
    by_cases c13 : a0 = 44
    ·rw [if_pos c13] at H
     have c13b0 : (a0 == 44) = true := beq_iff_eq.mpr c13
     have c13b1 : (a0 != 44) = false := bne_eq_false_iff_eq.mpr c13
     clear c13
     have H' := uZ H
     clear H
     go_wp2
     go_meet
     case rel => exact ⟨_, (true), (by first | rfl | (simp; done) | (simp [*]; done)), H', ⟨by have := HJ1.out; first | omega | exact Nat.le_refl _⟩, by repeat (first | exact Drawn0.refl _ | apply Drawn0.step)⟩
    rw [if_neg c13] at H
    have c13b0 : (a0 == 44) = false := beq_eq_false_iff_ne.mpr c13
    have c13b1 : (a0 != 44) = true := bne_iff_ne.mpr c13
    have H' := uZ H
    clear H
    go_wp2
    go_meet
    case rel => exact ⟨_, ((a0 == 48)), (by first | rfl | (simp; done) | (simp [*]; done)), H', ⟨by have := HJ1.out; first | omega | exact Nat.le_refl _⟩, by repeat (first | exact Drawn0.refl _ | apply Drawn0.step)⟩
   case rest =>
    clear HC9
    try clear c1
    try clear p2
    try clear c3
    try clear c3b0
    try clear c3b1
    try clear c4
    try clear c4b0
    try clear c4b1
    try clear c5
    try clear c5b0
    try clear c5b1
    try clear c6
    try clear c6b0
    try clear c6b1
    try clear c7
    try clear c7b0
    try clear c7b1
    try clear c8
    try clear c10
    try clear c10b0
    try clear c10b1
    try clear c11
    try clear c11b0
    try clear c11b1
    try clear c12
    try clear c12b0
    try clear c12b1
    try clear c13
    try clear c13b0
    try clear c13b1
    try clear p2
    obtain ⟨kq, x26_8, rfl, HA, HJ8, ⟨mc8, rfl⟩⟩ := hcut
    cases kq with
    | zero => exact absurd HA.out (by simp [switchbackref22_registers.j1])
    | succ kj8 =>
     have H := HA.out
     clear HA
     simp only [switchbackref22_registers.j1] at H
     by_cases c14 : x26_8 = true
     ·subst c14
      have H1 : (some 0) = some r := by rw [if_pos rfl] at H; exact H
      clear H
      have H := H1
      clear H1
      obtain rfl := Option.some.inj H
      go_wp2
      go_ret
      exact ⟨by first | rfl | (simp; done) | (simp [*]; done), by repeat (first | exact Drawn0.refl _ | apply Drawn0.step)⟩
     replace c14 := Bool.eq_false_iff.mpr c14
     subst c14
     have H1 : (some 2) = some r := by rw [if_neg (show ¬ (false = true) by decide)] at H; exact H
     clear H
     have H := H1
     clear H1
     obtain rfl := Option.some.inj H
     go_wp2
     go_ret
     exact ⟨by first | rfl | (simp; done) | (simp [*]; done), by repeat (first | exact Drawn0.refl _ | apply Drawn0.step)⟩

end Go.Proofs.YtlhgfhmdhmgmpaaGreatDoor.PZ1

-- Written by gp.py for this claim.
namespace Go.Proofs.YtlhgfhmdhmgmpaaGreatDoor.PZ1
open Go.RowKit Go.Proofs.YtlhgfhmdhmgmpaaGreatDoorW.PrintWords Go.Proofs.YtlhgfhmdhmgmpaaGreatDoorW.PrintLast Go.Proofs.YtlhgfhmdhmgmpaaGreatDoorW.PrintMore
attribute [local go_sem] max2_int min2_int max_two min_two max_three min_three max_four min_four   -- for this text's walks alone
set_option linter.unusedVariables false
set_option linter.unusedSimpArgs false

/-! ### switchbackref22_three: function 69 -/
def switchbackref22_three.f (a0 : Int) : Option (Bool) := if a0 ≥ 5 then (some (decide (a0 ≤ 23))) else (some false)
set_option maxHeartbeats 8000000 in
set_option maxRecDepth 100000 in
theorem switchbackref22_three.calls (a0 : Int) (r : Bool) (w : World) (h : switchbackref22_three.f a0 = some r) :
    Calls Tryz.prog 69 #[.int .i64 a0] w fun e w' => e = .returned (.bool r) ∧ Drawn0 w w' := by
  have H : (if a0 ≥ 5 then (some (decide (a0 ≤ 23))) else (some false)) = some r := h
  clear h
  by_cases c2 : a0 ≥ 5
  · rw [if_pos c2] at H
    have c2b0 : decide (5 ≤ a0) = true := decide_eq_true c2
    clear c2
    obtain rfl := Option.some.inj H
    go_enter Tryz.func69, Tryz.ntmps69
    go_wp2
    go_ret
    exact ⟨by first | rfl | (simp; done) | (simp [*]; done), by repeat (first | exact Drawn0.refl _ | apply Drawn0.step)⟩
  · rw [if_neg c2] at H
    have c2b0 : decide (5 ≤ a0) = false := decide_eq_false c2
    clear c2
    obtain rfl := Option.some.inj H
    go_enter Tryz.func69, Tryz.ntmps69
    go_wp2
    go_ret
    exact ⟨by first | rfl | (simp; done) | (simp [*]; done), by repeat (first | exact Drawn0.refl _ | apply Drawn0.step)⟩

end Go.Proofs.YtlhgfhmdhmgmpaaGreatDoor.PZ1

-- Written by gp.py for this claim.
namespace Go.Proofs.YtlhgfhmdhmgmpaaGreatDoor.PZ1
open Go.RowKit Go.Proofs.YtlhgfhmdhmgmpaaGreatDoorW.PrintWords Go.Proofs.YtlhgfhmdhmgmpaaGreatDoorW.PrintLast Go.Proofs.YtlhgfhmdhmgmpaaGreatDoorW.PrintMore
attribute [local go_sem] max2_int min2_int max_two min_two max_three min_three max_four min_four   -- for this text's walks alone
set_option linter.unusedVariables false
set_option linter.unusedSimpArgs false

/-! ### switchbackref22_Name: function 95 -/
def switchbackref22_Name.f (a0 : Int) : Option (ByteArray) := (some (([(⟨#[76, 73]⟩ : ByteArray), (⟨#[76, 73, 84]⟩ : ByteArray), (⟨#[77, 79, 86]⟩ : ByteArray), (⟨#[65, 68, 68, 73]⟩ : ByteArray), (⟨#[65, 68, 68]⟩ : ByteArray), (⟨#[83, 85, 66]⟩ : ByteArray), (⟨#[77, 85, 76]⟩ : ByteArray), (⟨#[68, 73, 86, 83]⟩ : ByteArray), (⟨#[68, 73, 86, 85]⟩ : ByteArray), (⟨#[82, 69, 77, 83]⟩ : ByteArray), (⟨#[82, 69, 77, 85]⟩ : ByteArray), (⟨#[65, 78, 68]⟩ : ByteArray), (⟨#[79, 82]⟩ : ByteArray), (⟨#[88, 79, 82]⟩ : ByteArray), (⟨#[83, 72, 76]⟩ : ByteArray), (⟨#[83, 72, 82, 83]⟩ : ByteArray), (⟨#[83, 72, 82, 85]⟩ : ByteArray), (⟨#[69, 81]⟩ : ByteArray), (⟨#[78, 69]⟩ : ByteArray), (⟨#[76, 84, 83]⟩ : ByteArray), (⟨#[76, 84, 85]⟩ : ByteArray), (⟨#[76, 69, 83]⟩ : ByteArray), (⟨#[76, 69, 85]⟩ : ByteArray), (⟨#[78, 69, 71]⟩ : ByteArray), (⟨#[78, 79, 84]⟩ : ByteArray), (⟨#[76, 79, 87]⟩ : ByteArray), (⟨#[76, 68]⟩ : ByteArray), (⟨#[83, 84]⟩ : ByteArray), (⟨#[67, 72, 75]⟩ : ByteArray), (⟨#[66, 69, 81]⟩ : ByteArray), (⟨#[66, 78, 69]⟩ : ByteArray), (⟨#[66, 76, 84, 83]⟩ : ByteArray), (⟨#[66, 71, 69, 83]⟩ : ByteArray), (⟨#[66, 76, 69, 83]⟩ : ByteArray), (⟨#[66, 71, 84, 83]⟩ : ByteArray), (⟨#[66, 76, 84, 85]⟩ : ByteArray), (⟨#[66, 71, 69, 85]⟩ : ByteArray), (⟨#[66, 76, 69, 85]⟩ : ByteArray), (⟨#[66, 71, 84, 85]⟩ : ByteArray), (⟨#[74, 77, 80]⟩ : ByteArray), (⟨#[74, 77, 76]⟩ : ByteArray), (⟨#[74, 84, 65, 66]⟩ : ByteArray), (⟨#[67, 65, 76, 76]⟩ : ByteArray), (⟨#[82, 69, 84]⟩ : ByteArray), (⟨#[71, 69, 84, 67]⟩ : ByteArray), (⟨#[80, 85, 84, 67]⟩ : ByteArray), (⟨#[69, 88, 73, 84]⟩ : ByteArray), (⟨#[84, 82, 65, 80]⟩ : ByteArray)] : List ByteArray) : List ByteArray)).bind fun y161 => (if 0 ≤ (wrap64 (a0 - 1)) then (if (wrap64 (a0 - 1)) < (y161.length : Int) then (some (rdOf ByteArray.empty y161 (wrap64 (a0 - 1)))) else (none)) else (none))
set_option maxHeartbeats 8000000 in
set_option maxRecDepth 100000 in
theorem switchbackref22_Name.calls (a0 : Int) (r : ByteArray) (w : World) (h : switchbackref22_Name.f a0 = some r) :
    Calls Tryz.prog 95 #[.int .i64 a0] w fun e w' => e = .returned (.string r) ∧ Below w.heap.size w w' := by
  have HB := Aside0.mk (Below.refl w.heap.size w)
  have H : ((some (([(⟨#[76, 73]⟩ : ByteArray), (⟨#[76, 73, 84]⟩ : ByteArray), (⟨#[77, 79, 86]⟩ : ByteArray), (⟨#[65, 68, 68, 73]⟩ : ByteArray), (⟨#[65, 68, 68]⟩ : ByteArray), (⟨#[83, 85, 66]⟩ : ByteArray), (⟨#[77, 85, 76]⟩ : ByteArray), (⟨#[68, 73, 86, 83]⟩ : ByteArray), (⟨#[68, 73, 86, 85]⟩ : ByteArray), (⟨#[82, 69, 77, 83]⟩ : ByteArray), (⟨#[82, 69, 77, 85]⟩ : ByteArray), (⟨#[65, 78, 68]⟩ : ByteArray), (⟨#[79, 82]⟩ : ByteArray), (⟨#[88, 79, 82]⟩ : ByteArray), (⟨#[83, 72, 76]⟩ : ByteArray), (⟨#[83, 72, 82, 83]⟩ : ByteArray), (⟨#[83, 72, 82, 85]⟩ : ByteArray), (⟨#[69, 81]⟩ : ByteArray), (⟨#[78, 69]⟩ : ByteArray), (⟨#[76, 84, 83]⟩ : ByteArray), (⟨#[76, 84, 85]⟩ : ByteArray), (⟨#[76, 69, 83]⟩ : ByteArray), (⟨#[76, 69, 85]⟩ : ByteArray), (⟨#[78, 69, 71]⟩ : ByteArray), (⟨#[78, 79, 84]⟩ : ByteArray), (⟨#[76, 79, 87]⟩ : ByteArray), (⟨#[76, 68]⟩ : ByteArray), (⟨#[83, 84]⟩ : ByteArray), (⟨#[67, 72, 75]⟩ : ByteArray), (⟨#[66, 69, 81]⟩ : ByteArray), (⟨#[66, 78, 69]⟩ : ByteArray), (⟨#[66, 76, 84, 83]⟩ : ByteArray), (⟨#[66, 71, 69, 83]⟩ : ByteArray), (⟨#[66, 76, 69, 83]⟩ : ByteArray), (⟨#[66, 71, 84, 83]⟩ : ByteArray), (⟨#[66, 76, 84, 85]⟩ : ByteArray), (⟨#[66, 71, 69, 85]⟩ : ByteArray), (⟨#[66, 76, 69, 85]⟩ : ByteArray), (⟨#[66, 71, 84, 85]⟩ : ByteArray), (⟨#[74, 77, 80]⟩ : ByteArray), (⟨#[74, 77, 76]⟩ : ByteArray), (⟨#[74, 84, 65, 66]⟩ : ByteArray), (⟨#[67, 65, 76, 76]⟩ : ByteArray), (⟨#[82, 69, 84]⟩ : ByteArray), (⟨#[71, 69, 84, 67]⟩ : ByteArray), (⟨#[80, 85, 84, 67]⟩ : ByteArray), (⟨#[69, 88, 73, 84]⟩ : ByteArray), (⟨#[84, 82, 65, 80]⟩ : ByteArray)] : List ByteArray) : List ByteArray)).bind fun y161 => (if 0 ≤ (wrap64 (a0 - 1)) then (if (wrap64 (a0 - 1)) < (y161.length : Int) then (some (rdOf ByteArray.empty y161 (wrap64 (a0 - 1)))) else (none)) else (none))) = some r := h
  clear h
  obtain ⟨y161, hy161⟩ : ∃ y_ : List ByteArray, y_ = (([(⟨#[76, 73]⟩ : ByteArray), (⟨#[76, 73, 84]⟩ : ByteArray), (⟨#[77, 79, 86]⟩ : ByteArray), (⟨#[65, 68, 68, 73]⟩ : ByteArray), (⟨#[65, 68, 68]⟩ : ByteArray), (⟨#[83, 85, 66]⟩ : ByteArray), (⟨#[77, 85, 76]⟩ : ByteArray), (⟨#[68, 73, 86, 83]⟩ : ByteArray), (⟨#[68, 73, 86, 85]⟩ : ByteArray), (⟨#[82, 69, 77, 83]⟩ : ByteArray), (⟨#[82, 69, 77, 85]⟩ : ByteArray), (⟨#[65, 78, 68]⟩ : ByteArray), (⟨#[79, 82]⟩ : ByteArray), (⟨#[88, 79, 82]⟩ : ByteArray), (⟨#[83, 72, 76]⟩ : ByteArray), (⟨#[83, 72, 82, 83]⟩ : ByteArray), (⟨#[83, 72, 82, 85]⟩ : ByteArray), (⟨#[69, 81]⟩ : ByteArray), (⟨#[78, 69]⟩ : ByteArray), (⟨#[76, 84, 83]⟩ : ByteArray), (⟨#[76, 84, 85]⟩ : ByteArray), (⟨#[76, 69, 83]⟩ : ByteArray), (⟨#[76, 69, 85]⟩ : ByteArray), (⟨#[78, 69, 71]⟩ : ByteArray), (⟨#[78, 79, 84]⟩ : ByteArray), (⟨#[76, 79, 87]⟩ : ByteArray), (⟨#[76, 68]⟩ : ByteArray), (⟨#[83, 84]⟩ : ByteArray), (⟨#[67, 72, 75]⟩ : ByteArray), (⟨#[66, 69, 81]⟩ : ByteArray), (⟨#[66, 78, 69]⟩ : ByteArray), (⟨#[66, 76, 84, 83]⟩ : ByteArray), (⟨#[66, 71, 69, 83]⟩ : ByteArray), (⟨#[66, 76, 69, 83]⟩ : ByteArray), (⟨#[66, 71, 84, 83]⟩ : ByteArray), (⟨#[66, 76, 84, 85]⟩ : ByteArray), (⟨#[66, 71, 69, 85]⟩ : ByteArray), (⟨#[66, 76, 69, 85]⟩ : ByteArray), (⟨#[66, 71, 84, 85]⟩ : ByteArray), (⟨#[74, 77, 80]⟩ : ByteArray), (⟨#[74, 77, 76]⟩ : ByteArray), (⟨#[74, 84, 65, 66]⟩ : ByteArray), (⟨#[67, 65, 76, 76]⟩ : ByteArray), (⟨#[82, 69, 84]⟩ : ByteArray), (⟨#[71, 69, 84, 67]⟩ : ByteArray), (⟨#[80, 85, 84, 67]⟩ : ByteArray), (⟨#[69, 88, 73, 84]⟩ : ByteArray), (⟨#[84, 82, 65, 80]⟩ : ByteArray)] : List ByteArray)) := ⟨_, rfl⟩
  replace H : (if 0 ≤ (wrap64 (a0 - 1)) then (if (wrap64 (a0 - 1)) < (y161.length : Int) then (some (rdOf ByteArray.empty y161 (wrap64 (a0 - 1)))) else (none)) else (none)) = some r := by first | (rw [hy161]; with_reducible exact H) | (have H2_ := (Option.bind_some _ _).symm.trans H; rw [hy161]; with_reducible exact H2_) | (have H2_ := (Option.bind_some _ _).symm.trans H; with_reducible exact H2_) | with_reducible exact H | (rw [hy161]; exact H) | exact H
  have Ny161 := Aside0.mk hy161
  clear hy161
  obtain ⟨ji2, hji2⟩ : ∃ j_ : Int, (wrap64 (a0 - 1)) = j_ := ⟨_, rfl⟩
  replace H : (if 0 ≤ (ji2) then (if (ji2) < (y161.length : Int) then (some (rdOf ByteArray.empty y161 (ji2))) else (none)) else (none)) = some r := by first | (rw [hji2] at H; exact H) | (simp only [hji2] at H ⊢; exact H)
  have hji2w : (IntKind.i64.wrap (a0 - 1)) = ji2 := (i64_w _).trans hji2
  by_cases c3 : 0 ≤ (ji2)
  · rw [if_pos c3] at H
    have c3b0 : decide (0 ≤ (ji2)) = true := decide_eq_true c3
    clear c3
    by_cases c4 : (ji2) < (y161.length : Int)
    · rw [if_pos c4] at H
      have c4b0 : decide ((ji2) < (y161.length : Int)) = true := decide_eq_true c4
      clear c4
      obtain rfl := Option.some.inj H
      go_enter Tryz.func95, Tryz.ntmps95
      go_wp2_with (first | ((with_reducible refine gate_dst (N := 4) rfl ?_); refine Kd.R_lit Kd.string _ 9 ?hg (N := 4) ?hd (xs := ([(⟨#[76, 73]⟩ : ByteArray), (⟨#[76, 73, 84]⟩ : ByteArray), (⟨#[77, 79, 86]⟩ : ByteArray), (⟨#[65, 68, 68, 73]⟩ : ByteArray), (⟨#[65, 68, 68]⟩ : ByteArray), (⟨#[83, 85, 66]⟩ : ByteArray), (⟨#[77, 85, 76]⟩ : ByteArray), (⟨#[68, 73, 86, 83]⟩ : ByteArray), (⟨#[68, 73, 86, 85]⟩ : ByteArray), (⟨#[82, 69, 77, 83]⟩ : ByteArray), (⟨#[82, 69, 77, 85]⟩ : ByteArray), (⟨#[65, 78, 68]⟩ : ByteArray), (⟨#[79, 82]⟩ : ByteArray), (⟨#[88, 79, 82]⟩ : ByteArray), (⟨#[83, 72, 76]⟩ : ByteArray), (⟨#[83, 72, 82, 83]⟩ : ByteArray), (⟨#[83, 72, 82, 85]⟩ : ByteArray), (⟨#[69, 81]⟩ : ByteArray), (⟨#[78, 69]⟩ : ByteArray), (⟨#[76, 84, 83]⟩ : ByteArray), (⟨#[76, 84, 85]⟩ : ByteArray), (⟨#[76, 69, 83]⟩ : ByteArray), (⟨#[76, 69, 85]⟩ : ByteArray), (⟨#[78, 69, 71]⟩ : ByteArray), (⟨#[78, 79, 84]⟩ : ByteArray), (⟨#[76, 79, 87]⟩ : ByteArray), (⟨#[76, 68]⟩ : ByteArray), (⟨#[83, 84]⟩ : ByteArray), (⟨#[67, 72, 75]⟩ : ByteArray), (⟨#[66, 69, 81]⟩ : ByteArray), (⟨#[66, 78, 69]⟩ : ByteArray), (⟨#[66, 76, 84, 83]⟩ : ByteArray), (⟨#[66, 71, 69, 83]⟩ : ByteArray), (⟨#[66, 76, 69, 83]⟩ : ByteArray), (⟨#[66, 71, 84, 83]⟩ : ByteArray), (⟨#[66, 76, 84, 85]⟩ : ByteArray), (⟨#[66, 71, 69, 85]⟩ : ByteArray), (⟨#[66, 76, 69, 85]⟩ : ByteArray), (⟨#[66, 71, 84, 85]⟩ : ByteArray), (⟨#[74, 77, 80]⟩ : ByteArray), (⟨#[74, 77, 76]⟩ : ByteArray), (⟨#[74, 84, 65, 66]⟩ : ByteArray), (⟨#[67, 65, 76, 76]⟩ : ByteArray), (⟨#[82, 69, 84]⟩ : ByteArray), (⟨#[71, 69, 84, 67]⟩ : ByteArray), (⟨#[80, 85, 84, 67]⟩ : ByteArray), (⟨#[69, 88, 73, 84]⟩ : ByteArray), (⟨#[84, 82, 65, 80]⟩ : ByteArray)] : List ByteArray)) (inner := [.string (⟨#[76, 73]⟩ : ByteArray), .string (⟨#[76, 73, 84]⟩ : ByteArray), .string (⟨#[77, 79, 86]⟩ : ByteArray), .string (⟨#[65, 68, 68, 73]⟩ : ByteArray), .string (⟨#[65, 68, 68]⟩ : ByteArray), .string (⟨#[83, 85, 66]⟩ : ByteArray), .string (⟨#[77, 85, 76]⟩ : ByteArray), .string (⟨#[68, 73, 86, 83]⟩ : ByteArray), .string (⟨#[68, 73, 86, 85]⟩ : ByteArray), .string (⟨#[82, 69, 77, 83]⟩ : ByteArray), .string (⟨#[82, 69, 77, 85]⟩ : ByteArray), .string (⟨#[65, 78, 68]⟩ : ByteArray), .string (⟨#[79, 82]⟩ : ByteArray), .string (⟨#[88, 79, 82]⟩ : ByteArray), .string (⟨#[83, 72, 76]⟩ : ByteArray), .string (⟨#[83, 72, 82, 83]⟩ : ByteArray), .string (⟨#[83, 72, 82, 85]⟩ : ByteArray), .string (⟨#[69, 81]⟩ : ByteArray), .string (⟨#[78, 69]⟩ : ByteArray), .string (⟨#[76, 84, 83]⟩ : ByteArray), .string (⟨#[76, 84, 85]⟩ : ByteArray), .string (⟨#[76, 69, 83]⟩ : ByteArray), .string (⟨#[76, 69, 85]⟩ : ByteArray), .string (⟨#[78, 69, 71]⟩ : ByteArray), .string (⟨#[78, 79, 84]⟩ : ByteArray), .string (⟨#[76, 79, 87]⟩ : ByteArray), .string (⟨#[76, 68]⟩ : ByteArray), .string (⟨#[83, 84]⟩ : ByteArray), .string (⟨#[67, 72, 75]⟩ : ByteArray), .string (⟨#[66, 69, 81]⟩ : ByteArray), .string (⟨#[66, 78, 69]⟩ : ByteArray), .string (⟨#[66, 76, 84, 83]⟩ : ByteArray), .string (⟨#[66, 71, 69, 83]⟩ : ByteArray), .string (⟨#[66, 76, 69, 83]⟩ : ByteArray), .string (⟨#[66, 71, 84, 83]⟩ : ByteArray), .string (⟨#[66, 76, 84, 85]⟩ : ByteArray), .string (⟨#[66, 71, 69, 85]⟩ : ByteArray), .string (⟨#[66, 76, 69, 85]⟩ : ByteArray), .string (⟨#[66, 71, 84, 85]⟩ : ByteArray), .string (⟨#[74, 77, 80]⟩ : ByteArray), .string (⟨#[74, 77, 76]⟩ : ByteArray), .string (⟨#[74, 84, 65, 66]⟩ : ByteArray), .string (⟨#[67, 65, 76, 76]⟩ : ByteArray), .string (⟨#[82, 69, 84]⟩ : ByteArray), .string (⟨#[71, 69, 84, 67]⟩ : ByteArray), .string (⟨#[80, 85, 84, 67]⟩ : ByteArray), .string (⟨#[69, 88, 73, 84]⟩ : ByteArray), .string (⟨#[84, 82, 65, 80]⟩ : ByteArray)]) (ok := fun _ => True) (okp := fun _ => True) ?hr ?hp (fun _ hk => hk) trivial (Below.refl _ _) (Nat.le_refl _) (by simp) ?_; (case hd => rfl); (case hg => rfl); (case hr => first | (go_simp; done) | (go_simp; rfl)); (case hp => exact (Reps.one (show Kd.M Kd.string _ _ _ (⟨#[76, 73]⟩ : ByteArray) [.string (⟨#[76, 73]⟩ : ByteArray)] from rfl) (Reps.one (show Kd.M Kd.string _ _ _ (⟨#[76, 73, 84]⟩ : ByteArray) [.string (⟨#[76, 73, 84]⟩ : ByteArray)] from rfl) (Reps.one (show Kd.M Kd.string _ _ _ (⟨#[77, 79, 86]⟩ : ByteArray) [.string (⟨#[77, 79, 86]⟩ : ByteArray)] from rfl) (Reps.one (show Kd.M Kd.string _ _ _ (⟨#[65, 68, 68, 73]⟩ : ByteArray) [.string (⟨#[65, 68, 68, 73]⟩ : ByteArray)] from rfl) (Reps.one (show Kd.M Kd.string _ _ _ (⟨#[65, 68, 68]⟩ : ByteArray) [.string (⟨#[65, 68, 68]⟩ : ByteArray)] from rfl) (Reps.one (show Kd.M Kd.string _ _ _ (⟨#[83, 85, 66]⟩ : ByteArray) [.string (⟨#[83, 85, 66]⟩ : ByteArray)] from rfl) (Reps.one (show Kd.M Kd.string _ _ _ (⟨#[77, 85, 76]⟩ : ByteArray) [.string (⟨#[77, 85, 76]⟩ : ByteArray)] from rfl) (Reps.one (show Kd.M Kd.string _ _ _ (⟨#[68, 73, 86, 83]⟩ : ByteArray) [.string (⟨#[68, 73, 86, 83]⟩ : ByteArray)] from rfl) (Reps.one (show Kd.M Kd.string _ _ _ (⟨#[68, 73, 86, 85]⟩ : ByteArray) [.string (⟨#[68, 73, 86, 85]⟩ : ByteArray)] from rfl) (Reps.one (show Kd.M Kd.string _ _ _ (⟨#[82, 69, 77, 83]⟩ : ByteArray) [.string (⟨#[82, 69, 77, 83]⟩ : ByteArray)] from rfl) (Reps.one (show Kd.M Kd.string _ _ _ (⟨#[82, 69, 77, 85]⟩ : ByteArray) [.string (⟨#[82, 69, 77, 85]⟩ : ByteArray)] from rfl) (Reps.one (show Kd.M Kd.string _ _ _ (⟨#[65, 78, 68]⟩ : ByteArray) [.string (⟨#[65, 78, 68]⟩ : ByteArray)] from rfl) (Reps.one (show Kd.M Kd.string _ _ _ (⟨#[79, 82]⟩ : ByteArray) [.string (⟨#[79, 82]⟩ : ByteArray)] from rfl) (Reps.one (show Kd.M Kd.string _ _ _ (⟨#[88, 79, 82]⟩ : ByteArray) [.string (⟨#[88, 79, 82]⟩ : ByteArray)] from rfl) (Reps.one (show Kd.M Kd.string _ _ _ (⟨#[83, 72, 76]⟩ : ByteArray) [.string (⟨#[83, 72, 76]⟩ : ByteArray)] from rfl) (Reps.one (show Kd.M Kd.string _ _ _ (⟨#[83, 72, 82, 83]⟩ : ByteArray) [.string (⟨#[83, 72, 82, 83]⟩ : ByteArray)] from rfl) (Reps.one (show Kd.M Kd.string _ _ _ (⟨#[83, 72, 82, 85]⟩ : ByteArray) [.string (⟨#[83, 72, 82, 85]⟩ : ByteArray)] from rfl) (Reps.one (show Kd.M Kd.string _ _ _ (⟨#[69, 81]⟩ : ByteArray) [.string (⟨#[69, 81]⟩ : ByteArray)] from rfl) (Reps.one (show Kd.M Kd.string _ _ _ (⟨#[78, 69]⟩ : ByteArray) [.string (⟨#[78, 69]⟩ : ByteArray)] from rfl) (Reps.one (show Kd.M Kd.string _ _ _ (⟨#[76, 84, 83]⟩ : ByteArray) [.string (⟨#[76, 84, 83]⟩ : ByteArray)] from rfl) (Reps.one (show Kd.M Kd.string _ _ _ (⟨#[76, 84, 85]⟩ : ByteArray) [.string (⟨#[76, 84, 85]⟩ : ByteArray)] from rfl) (Reps.one (show Kd.M Kd.string _ _ _ (⟨#[76, 69, 83]⟩ : ByteArray) [.string (⟨#[76, 69, 83]⟩ : ByteArray)] from rfl) (Reps.one (show Kd.M Kd.string _ _ _ (⟨#[76, 69, 85]⟩ : ByteArray) [.string (⟨#[76, 69, 85]⟩ : ByteArray)] from rfl) (Reps.one (show Kd.M Kd.string _ _ _ (⟨#[78, 69, 71]⟩ : ByteArray) [.string (⟨#[78, 69, 71]⟩ : ByteArray)] from rfl) (Reps.one (show Kd.M Kd.string _ _ _ (⟨#[78, 79, 84]⟩ : ByteArray) [.string (⟨#[78, 79, 84]⟩ : ByteArray)] from rfl) (Reps.one (show Kd.M Kd.string _ _ _ (⟨#[76, 79, 87]⟩ : ByteArray) [.string (⟨#[76, 79, 87]⟩ : ByteArray)] from rfl) (Reps.one (show Kd.M Kd.string _ _ _ (⟨#[76, 68]⟩ : ByteArray) [.string (⟨#[76, 68]⟩ : ByteArray)] from rfl) (Reps.one (show Kd.M Kd.string _ _ _ (⟨#[83, 84]⟩ : ByteArray) [.string (⟨#[83, 84]⟩ : ByteArray)] from rfl) (Reps.one (show Kd.M Kd.string _ _ _ (⟨#[67, 72, 75]⟩ : ByteArray) [.string (⟨#[67, 72, 75]⟩ : ByteArray)] from rfl) (Reps.one (show Kd.M Kd.string _ _ _ (⟨#[66, 69, 81]⟩ : ByteArray) [.string (⟨#[66, 69, 81]⟩ : ByteArray)] from rfl) (Reps.one (show Kd.M Kd.string _ _ _ (⟨#[66, 78, 69]⟩ : ByteArray) [.string (⟨#[66, 78, 69]⟩ : ByteArray)] from rfl) (Reps.one (show Kd.M Kd.string _ _ _ (⟨#[66, 76, 84, 83]⟩ : ByteArray) [.string (⟨#[66, 76, 84, 83]⟩ : ByteArray)] from rfl) (Reps.one (show Kd.M Kd.string _ _ _ (⟨#[66, 71, 69, 83]⟩ : ByteArray) [.string (⟨#[66, 71, 69, 83]⟩ : ByteArray)] from rfl) (Reps.one (show Kd.M Kd.string _ _ _ (⟨#[66, 76, 69, 83]⟩ : ByteArray) [.string (⟨#[66, 76, 69, 83]⟩ : ByteArray)] from rfl) (Reps.one (show Kd.M Kd.string _ _ _ (⟨#[66, 71, 84, 83]⟩ : ByteArray) [.string (⟨#[66, 71, 84, 83]⟩ : ByteArray)] from rfl) (Reps.one (show Kd.M Kd.string _ _ _ (⟨#[66, 76, 84, 85]⟩ : ByteArray) [.string (⟨#[66, 76, 84, 85]⟩ : ByteArray)] from rfl) (Reps.one (show Kd.M Kd.string _ _ _ (⟨#[66, 71, 69, 85]⟩ : ByteArray) [.string (⟨#[66, 71, 69, 85]⟩ : ByteArray)] from rfl) (Reps.one (show Kd.M Kd.string _ _ _ (⟨#[66, 76, 69, 85]⟩ : ByteArray) [.string (⟨#[66, 76, 69, 85]⟩ : ByteArray)] from rfl) (Reps.one (show Kd.M Kd.string _ _ _ (⟨#[66, 71, 84, 85]⟩ : ByteArray) [.string (⟨#[66, 71, 84, 85]⟩ : ByteArray)] from rfl) (Reps.one (show Kd.M Kd.string _ _ _ (⟨#[74, 77, 80]⟩ : ByteArray) [.string (⟨#[74, 77, 80]⟩ : ByteArray)] from rfl) (Reps.one (show Kd.M Kd.string _ _ _ (⟨#[74, 77, 76]⟩ : ByteArray) [.string (⟨#[74, 77, 76]⟩ : ByteArray)] from rfl) (Reps.one (show Kd.M Kd.string _ _ _ (⟨#[74, 84, 65, 66]⟩ : ByteArray) [.string (⟨#[74, 84, 65, 66]⟩ : ByteArray)] from rfl) (Reps.one (show Kd.M Kd.string _ _ _ (⟨#[67, 65, 76, 76]⟩ : ByteArray) [.string (⟨#[67, 65, 76, 76]⟩ : ByteArray)] from rfl) (Reps.one (show Kd.M Kd.string _ _ _ (⟨#[82, 69, 84]⟩ : ByteArray) [.string (⟨#[82, 69, 84]⟩ : ByteArray)] from rfl) (Reps.one (show Kd.M Kd.string _ _ _ (⟨#[71, 69, 84, 67]⟩ : ByteArray) [.string (⟨#[71, 69, 84, 67]⟩ : ByteArray)] from rfl) (Reps.one (show Kd.M Kd.string _ _ _ (⟨#[80, 85, 84, 67]⟩ : ByteArray) [.string (⟨#[80, 85, 84, 67]⟩ : ByteArray)] from rfl) (Reps.one (show Kd.M Kd.string _ _ _ (⟨#[69, 88, 73, 84]⟩ : ByteArray) [.string (⟨#[69, 88, 73, 84]⟩ : ByteArray)] from rfl) (Reps.one (show Kd.M Kd.string _ _ _ (⟨#[84, 82, 65, 80]⟩ : ByteArray) [.string (⟨#[84, 82, 65, 80]⟩ : ByteArray)] from rfl) (Reps.none _ _)))))))))))))))))))))))))))))))))))))))))))))))))); intro v162 w5 ho6 hb hg_ hnew_; clear hg_ hnew_; (first | rw [← Ny161.out] at ho6 | (simp only [Int.reduceToNat] at ho6; rw [← Ny161.out] at ho6)); have n0_ := Aside0.mk (Kd.R_lower ho6 (below_size (by repeat (first | (with_reducible first | exact HB.out | apply below_alloc | apply pw_below_drewN | apply below_drew1) | exact HB.out)))); have n1_ := Aside0.mk (below_step (by repeat (first | (with_reducible first | exact HB.out | apply below_alloc | apply pw_below_drewN | apply below_drew1) | exact HB.out)) hb); clear HB; have HO163 := n0_; have HB := n1_; clear n0_ n1_; clear hb ho6; obtain ⟨Ao7, co7, eo7⟩ := Kd.R_slice HO163.out; subst eo7; have p164 : 0 ≤ ((ji2) : Int) := of_decide_eq_true (by first | (with_reducible assumption) | assumption); have q164 : (ji2) < (y161.length : Int) := of_decide_eq_true (by first | (with_reducible assumption) | assumption); obtain ⟨ad164, e164, hx164_0⟩ := Kd.at_string (Kd.R_reads' HO163.out).2.2 (ji2) p164 q164; cases e164; replace p164 := eq_true p164; replace q164 := eq_true q164))
      go_ret
      exact ⟨by first | rfl | (simp [errW_none, errW_some] <;> rfl) | (simp only [← hji2]; first | rfl | (simp [errW_none, errW_some] <;> rfl)) | (simp [*, errW_none, errW_some] <;> rfl), by repeat (first | (with_reducible first | exact HB.out | apply below_alloc | apply pw_below_drewN | apply below_drew1) | exact HB.out)⟩
    · rw [if_neg c4] at H
      exact absurd H (by simp)
  · rw [if_neg c3] at H
    exact absurd H (by simp)

end Go.Proofs.YtlhgfhmdhmgmpaaGreatDoor.PZ1

-- Written by gp.py for this claim.
namespace Go.Proofs.YtlhgfhmdhmgmpaaGreatDoor.PZ1
open Go.RowKit Go.Proofs.YtlhgfhmdhmgmpaaGreatDoorW.PrintWords Go.Proofs.YtlhgfhmdhmgmpaaGreatDoorW.PrintLast Go.Proofs.YtlhgfhmdhmgmpaaGreatDoorW.PrintMore
attribute [local go_sem] max2_int min2_int max_two min_two max_three min_three max_four min_four   -- for this text's walks alone
set_option linter.unusedVariables false
set_option linter.unusedSimpArgs false

namespace q_switchbackref22_front
theorem uZ {p : Prop} (h : p) : Aside0 p := ⟨h⟩
theorem uB {p q : Prop} (h : p) (g : p → q := by intro h; repeat (first | (with_reducible first | exact h | apply below_alloc | apply pw_below_drewN | apply below_drew1) | exact h)) : q := g h
theorem zA : type_of% @List.map_toArray := @List.map_toArray
theorem zB : type_of% @List.length_drop := @List.length_drop
theorem zC : type_of% @List.length_take := @List.length_take
end q_switchbackref22_front
open q_switchbackref22_front

/-! ### switchbackref22_front: function 54 -/
mutual
def switchbackref22_front.j0 : Nat → Int → Int → Int → ByteArray → Int → Option (ByteArray)
  | 0, _, _, _, _, _ => none
  | k + 1, x0, x2, x3, x9, x10 => if x10 ≥ 2 then (if x9.size + 2 ≤ 9223372036854775807 then ((switchbackref22_Digits.f k x2).bind fun t168 => (if (x9 ++ (⟨#[32, 82]⟩ : ByteArray)).size + t168.size ≤ 9223372036854775807 then (switchbackref22_front.j1 k x0 x3 ((x9 ++ (⟨#[32, 82]⟩ : ByteArray)) ++ t168)) else (none))) else (none)) else (switchbackref22_front.j1 k x0 x3 x9)
def switchbackref22_front.j1 : Nat → Int → Int → ByteArray → Option (ByteArray)
  | 0, _, _, _ => none
  | k + 1, x0, x3, x9 => (switchbackref22_three.f x0).bind fun t169 => (if t169 = true then (if x9.size + 2 ≤ 9223372036854775807 then ((switchbackref22_Digits.f k x3).bind fun t170 => (if (x9 ++ (⟨#[32, 82]⟩ : ByteArray)).size + t170.size ≤ 9223372036854775807 then (some ((x9 ++ (⟨#[32, 82]⟩ : ByteArray)) ++ t170)) else (none))) else (none)) else (some x9))
end
def switchbackref22_front.f (k : Nat) (a0 : Int) (a1 : Int) (a2 : Int) (a3 : Int) : Option (ByteArray) := (switchbackref22_Name.f a0).bind fun t165 => ((switchbackref22_registers.f k a0).bind fun t166 => (if t166 ≥ 1 then (if t165.size + 2 ≤ 9223372036854775807 then ((switchbackref22_Digits.f k a1).bind fun t167 => (if (t165 ++ (⟨#[32, 82]⟩ : ByteArray)).size + t167.size ≤ 9223372036854775807 then (switchbackref22_front.j0 k a0 a2 a3 ((t165 ++ (⟨#[32, 82]⟩ : ByteArray)) ++ t167) t166) else (none))) else (none)) else (switchbackref22_front.j0 k a0 a2 a3 t165 t166)))
theorem switchbackref22_front.mono_l : ∀ k, (∀ y0 y1 y2 y3 y4, LeO (switchbackref22_front.j0 k y0 y1 y2 y3 y4) (switchbackref22_front.j0 (k + 1) y0 y1 y2 y3 y4)) ∧ (∀ y0 y1 y2, LeO (switchbackref22_front.j1 k y0 y1 y2) (switchbackref22_front.j1 (k + 1) y0 y1 y2))
  | 0 => ⟨fun _ _ _ _ _ r h => by simp [switchbackref22_front.j0] at h, fun _ _ _ r h => by simp [switchbackref22_front.j1] at h⟩
  | k + 1 => by
    obtain ⟨ih0, ih1⟩ := switchbackref22_front.mono_l k
    refine ⟨?_, ?_⟩
    · intro y0 y1 y2 y3 y4
      unfold switchbackref22_front.j0
      repeat' first
      | (with_reducible exact ih0 _ _ _ _ _)
      | (with_reducible exact ih1 _ _ _)
      | (with_reducible exact switchbackref22_Digits.mono _ _)
      | (with_reducible exact switchbackref22_registers.mono _ _)
      | (with_reducible exact LeO.refl _)
      | (with_reducible exact LeO.none _)
      | (with_reducible refine LeO.ite ?_ ?_)
      | (with_reducible refine LeO.bind ?_ (fun _ => ?_))
      | exact ih0 _ _ _ _ _
      | exact ih1 _ _ _
      | exact switchbackref22_Digits.mono _ _
      | exact switchbackref22_registers.mono _ _
      | exact LeO.none _
      | refine LeO.ite ?_ ?_
      | refine LeO.bind ?_ (fun _ => ?_)
    · intro y0 y1 y2
      unfold switchbackref22_front.j1
      repeat' first
      | (with_reducible exact ih0 _ _ _ _ _)
      | (with_reducible exact ih1 _ _ _)
      | (with_reducible exact switchbackref22_Digits.mono _ _)
      | (with_reducible exact switchbackref22_registers.mono _ _)
      | (with_reducible exact LeO.refl _)
      | (with_reducible exact LeO.none _)
      | (with_reducible refine LeO.ite ?_ ?_)
      | (with_reducible refine LeO.bind ?_ (fun _ => ?_))
      | exact ih0 _ _ _ _ _
      | exact ih1 _ _ _
      | exact switchbackref22_Digits.mono _ _
      | exact switchbackref22_registers.mono _ _
      | exact LeO.none _
      | refine LeO.ite ?_ ?_
      | refine LeO.bind ?_ (fun _ => ?_)
theorem switchbackref22_front.mono : ∀ a0 a1 a2 a3 k, LeO (switchbackref22_front.f k a0 a1 a2 a3) (switchbackref22_front.f (k + 1) a0 a1 a2 a3) := by
  intro a0 a1 a2 a3 k
  obtain ⟨ih0, ih1⟩ := switchbackref22_front.mono_l k
  unfold switchbackref22_front.f
  repeat' first
      | (with_reducible exact ih0 _ _ _ _ _)
      | (with_reducible exact ih1 _ _ _)
      | (with_reducible exact switchbackref22_Digits.mono _ _)
      | (with_reducible exact switchbackref22_registers.mono _ _)
      | (with_reducible exact LeO.refl _)
      | (with_reducible exact LeO.none _)
      | (with_reducible refine LeO.ite ?_ ?_)
      | (with_reducible refine LeO.bind ?_ (fun _ => ?_))
      | exact ih0 _ _ _ _ _
      | exact ih1 _ _ _
      | exact switchbackref22_Digits.mono _ _
      | exact switchbackref22_registers.mono _ _
      | exact LeO.none _
      | refine LeO.ite ?_ ?_
      | refine LeO.bind ?_ (fun _ => ?_)
set_option maxHeartbeats 8000000 in
set_option maxRecDepth 100000 in
theorem switchbackref22_front.calls (k : Nat) (a0 : Int) (a1 : Int) (a2 : Int) (a3 : Int) (r : ByteArray) (w : World) (h : switchbackref22_front.f k a0 a1 a2 a3 = some r) :
    Calls Tryz.prog 54 #[.int .i64 a0, .int .i64 a1, .int .i64 a2, .int .i64 a3] w fun e w' => e = .returned (.string r) ∧ Below w.heap.size w w' := by
 have HB := uZ (Below.refl w.heap.size w)
 have H : ((switchbackref22_Name.f a0).bind fun a5 => ((switchbackref22_registers.f k a0).bind fun a6 => (if a6 ≥ 1 then (if a5.size + 2 ≤ 9223372036854775807 then ((switchbackref22_Digits.f k a1).bind fun a7 => (if (a5 ++ (⟨#[32, 82]⟩ : ByteArray)).size + a7.size ≤ 9223372036854775807 then (switchbackref22_front.j0 k a0 a2 a3 ((a5 ++ (⟨#[32, 82]⟩ : ByteArray)) ++ a7) a6) else (none))) else (none)) else (switchbackref22_front.j0 k a0 a2 a3 a5 a6)))) = some r := h
 clear h
 replace H := Option.bind_eq_some_iff.mp H
 obtain ⟨a5, A50, H⟩ := H
 replace H : ((switchbackref22_registers.f k a0).bind fun a6 => (if a6 ≥ 1 then (if a5.size + 2 ≤ 9223372036854775807 then ((switchbackref22_Digits.f k a1).bind fun a7 => (if (a5 ++ (⟨#[32, 82]⟩ : ByteArray)).size + a7.size ≤ 9223372036854775807 then (switchbackref22_front.j0 k a0 a2 a3 ((a5 ++ (⟨#[32, 82]⟩ : ByteArray)) ++ a7) a6) else (none))) else (none)) else (switchbackref22_front.j0 k a0 a2 a3 a5 a6))) = some r := H
 have A5 := uZ A50
 clear A50
 replace H := Option.bind_eq_some_iff.mp H
 obtain ⟨a6, A60, H⟩ := H
 replace H : (if a6 ≥ 1 then (if a5.size + 2 ≤ 9223372036854775807 then ((switchbackref22_Digits.f k a1).bind fun a7 => (if (a5 ++ (⟨#[32, 82]⟩ : ByteArray)).size + a7.size ≤ 9223372036854775807 then (switchbackref22_front.j0 k a0 a2 a3 ((a5 ++ (⟨#[32, 82]⟩ : ByteArray)) ++ a7) a6) else (none))) else (none)) else (switchbackref22_front.j0 k a0 a2 a3 a5 a6)) = some r := H
 have A6 := uZ A60
 clear A60
 have HC7 := uZ H
 clear H
 go_enter Tryz.func54, Tryz.ntmps54
 go_upto_if 16 with (first | ((with_reducible refine gate_callee (f := 95) rfl ?_); refine goesL_ (some 12) rfl rfl Tryz.func95 (by kernel_rfl) rfl #[.int .i64 a0] rfl (by (try simp only [zA, List.map_cons, List.map_nil]); first | done | rfl | (simp only [zB, zC]; rfl)) ?_; (with_reducible refine (switchbackref22_Name.calls a0 a5 _ A5.out).mono ?_); rintro e w8 ⟨rfl, hb⟩; refine ⟨_, rfl, ?_⟩; have n0_ := uZ (below_step (uB HB.out) hb); clear HB; have HB := n0_; clear n0_; (try clear hb); (try clear hb2); (try clear hk); (try clear hi)) | ((with_reducible refine gate_callee (f := 67) rfl ?_); refine goesL_ (some 14) rfl rfl Tryz.func67 (by kernel_rfl) rfl #[.int .i64 a0] rfl (by (try simp only [zA, List.map_cons, List.map_nil]); first | done | rfl | (simp only [zB, zC]; rfl)) ?_; (with_reducible refine (switchbackref22_registers.calls k a0 a6 _ A6.out).mono ?_); rintro e w' ⟨rfl, ⟨nd, rfl⟩⟩; refine ⟨_, rfl, ?_⟩))
 (try simp only [Act.put, List.setIfInBounds_toArray, List.set_cons_zero, List.set_cons_succ])
 go_cut [9] (fun v9 wc => ∃ (kq : Nat) (x9_6 : ByteArray), v9 = .string x9_6 ∧ Aside0 (switchbackref22_front.j0 kq a0 a2 a3 x9_6 a6 = some r) ∧ Aside0 (kq ≤ k) ∧ Aside0 (Below w.heap.size w wc))
 case first =>
  have H := HC7.out
  clear HC7
  by_cases c9 : a6 ≥ 1
  ·rw [if_pos c9] at H
   have c9b0 : decide (1 ≤ a6) = true := decide_eq_true c9
   clear c9
   (first | rw [c9b0] | (simp only [i64_w, i32_w]; rw [c9b0]) | skip)
   by_cases c10 : a5.size + 2 ≤ 9223372036854775807
   ·rw [if_pos c10] at H
    have c10b0 := eq_true c10
    have c10b1 : decide (a5.size + 2 ≤ 9223372036854775807) = true := decide_eq_true c10
    try have c10b2 : (9223372036854775807 < a5.size + 2) = False := eq_false (Nat.not_lt.2 c10)
    replace H := Option.bind_eq_some_iff.mp H
    obtain ⟨a7, A110, H⟩ := H
    replace H : (if (a5 ++ (⟨#[32, 82]⟩ : ByteArray)).size + a7.size ≤ 9223372036854775807 then (switchbackref22_front.j0 k a0 a2 a3 ((a5 ++ (⟨#[32, 82]⟩ : ByteArray)) ++ a7) a6) else (none)) = some r := H
    have A11 := uZ A110
    clear A110
    by_cases c12 : (a5 ++ (⟨#[32, 82]⟩ : ByteArray)).size + a7.size ≤ 9223372036854775807
    ·rw [if_pos c12] at H
     have c12b0 := eq_true c12
     have c12b1 : decide ((a5 ++ (⟨#[32, 82]⟩ : ByteArray)).size + a7.size ≤ 9223372036854775807) = true := decide_eq_true c12
     try have c12b2 : (9223372036854775807 < (a5 ++ (⟨#[32, 82]⟩ : ByteArray)).size + a7.size) = False := eq_false (Nat.not_lt.2 c12)
     try (have c12b3 := c12b2; simp only [ByteArray.size_append, show (⟨#[32, 82]⟩ : ByteArray).size = 2 from rfl] at c12b3)
     have H' := uZ H
     clear H
     go_wp2_with (first | ((with_reducible refine gate_callee (f := 37) rfl ?_); refine goesL_ (some 20) rfl rfl Tryz.func37 (by kernel_rfl) rfl #[.int .i64 a1] rfl (by (try simp only [zA, List.map_cons, List.map_nil]); first | done | rfl | (simp only [zB, zC]; rfl)) ?_; (with_reducible refine (switchbackref22_Digits.calls k a1 a7 _ A11.out).mono ?_); rintro e w13 ⟨rfl, hb⟩; refine ⟨_, rfl, ?_⟩; have n0_ := uZ (below_step (uB HB.out) hb); clear HB; have HB := n0_; clear n0_; (try clear hb); (try clear hb2); (try clear hk); (try clear hi)))
     go_meet
     case rel => exact ⟨_, ((a5 ++ (⟨#[32, 82]⟩ : ByteArray)) ++ a7), (by first | rfl | (simp; done) | (simp [*]; done)), H', ⟨by first | omega | exact Nat.le_refl _⟩, ⟨uB HB.out⟩⟩
    rw [if_neg c12] at H
    exact absurd H (by simp)
   rw [if_neg c10] at H
   exact absurd H (by simp)
  rw [if_neg c9] at H
  have c9b0 : decide (1 ≤ a6) = false := decide_eq_false c9
  clear c9
  (first | rw [c9b0] | (simp only [i64_w, i32_w]; rw [c9b0]) | skip)
  have H' := uZ H
  clear H
  go_wp2
  go_meet
  case rel => exact ⟨_, (a5), (by first | rfl | (simp; done) | (simp [*]; done)), H', ⟨by first | omega | exact Nat.le_refl _⟩, ⟨uB HB.out⟩⟩
 case rest =>
  clear HC7
  try clear c1
  try clear p2
  try clear c3
  try clear c5
  try clear c6
  try clear c9
  try clear c9b0
  try clear c10
  try clear c10b0
  try clear c10b1
  try clear c10b2
  try clear c12
  try clear c12b0
  try clear c12b1
  try clear c12b2
  obtain ⟨kq, x9_6, rfl, HA, HJ6, HB⟩ := hcut
  cases kq with
  | zero => exact absurd HA.out (by simp [switchbackref22_front.j0])
  | succ kj6 =>
   have H := HA.out
   clear HA
   simp only [switchbackref22_front.j0] at H
   have HC14 := uZ H
   clear H
   go_upto_if 23 with (fail)
   go_cut [9] (fun v9 wc => ∃ (kq : Nat) (a4 : ByteArray), v9 = .string a4 ∧ Aside0 (switchbackref22_front.j1 kq a0 a3 a4 = some r) ∧ Aside0 (kq ≤ kj6) ∧ Aside0 (Below w.heap.size w wc))
   case first =>
    have H := HC14.out
    clear HC14
    by_cases c15 : a6 ≥ 2
    ·rw [if_pos c15] at H
     have c15b0 : decide (2 ≤ a6) = true := decide_eq_true c15
     clear c15
     (first | rw [c15b0] | (simp only [i64_w, i32_w]; rw [c15b0]) | skip)
     by_cases c16 : x9_6.size + 2 ≤ 9223372036854775807
     ·rw [if_pos c16] at H
      have c16b0 := eq_true c16
      have c16b1 : decide (x9_6.size + 2 ≤ 9223372036854775807) = true := decide_eq_true c16
      try have c16b2 : (9223372036854775807 < x9_6.size + 2) = False := eq_false (Nat.not_lt.2 c16)
      replace H := Option.bind_eq_some_iff.mp H
      obtain ⟨t168, A170, H⟩ := H
      replace H : (if (x9_6 ++ (⟨#[32, 82]⟩ : ByteArray)).size + t168.size ≤ 9223372036854775807 then (switchbackref22_front.j1 kj6 a0 a3 ((x9_6 ++ (⟨#[32, 82]⟩ : ByteArray)) ++ t168)) else (none)) = some r := H
      have A17 := uZ A170
      clear A170
      by_cases c18 : (x9_6 ++ (⟨#[32, 82]⟩ : ByteArray)).size + t168.size ≤ 9223372036854775807
      ·rw [if_pos c18] at H
       have c18b0 := eq_true c18
       have c18b1 : decide ((x9_6 ++ (⟨#[32, 82]⟩ : ByteArray)).size + t168.size ≤ 9223372036854775807) = true := decide_eq_true c18
       try have c18b2 : (9223372036854775807 < (x9_6 ++ (⟨#[32, 82]⟩ : ByteArray)).size + t168.size) = False := eq_false (Nat.not_lt.2 c18)
       try (have c18b3 := c18b2; simp only [ByteArray.size_append, show (⟨#[32, 82]⟩ : ByteArray).size = 2 from rfl] at c18b3)
       have H' := uZ H
       clear H
       go_wp2_with (first | ((with_reducible refine gate_callee (f := 37) rfl ?_); refine goesL_ (some 27) rfl rfl Tryz.func37 (by kernel_rfl) rfl #[.int .i64 a2] rfl (by (try simp only [zA, List.map_cons, List.map_nil]); first | done | rfl | (simp only [zB, zC]; rfl)) ?_; (with_reducible refine (switchbackref22_Digits.calls kj6 a2 t168 _ A17.out).mono ?_); rintro e w19 ⟨rfl, hb⟩; refine ⟨_, rfl, ?_⟩; have n0_ := uZ (below_step (uB HB.out) hb); clear HB; have HB := n0_; clear n0_; (try clear hb); (try clear hb2); (try clear hk); (try clear hi)))
       go_meet
       case rel => exact ⟨_, ((x9_6 ++ (⟨#[32, 82]⟩ : ByteArray)) ++ t168), (by first | rfl | (simp; done) | (simp [*]; done)), H', ⟨by have := HJ6.out; first | omega | exact Nat.le_refl _⟩, ⟨uB HB.out⟩⟩
      rw [if_neg c18] at H
      exact absurd H (by simp)
     rw [if_neg c16] at H
     exact absurd H (by simp)
    rw [if_neg c15] at H
    have c15b0 : decide (2 ≤ a6) = false := decide_eq_false c15
    clear c15
    (first | rw [c15b0] | (simp only [i64_w, i32_w]; rw [c15b0]) | skip)
    have H' := uZ H
    clear H
    go_wp2
    go_meet
    case rel => exact ⟨_, (x9_6), (by first | rfl | (simp; done) | (simp [*]; done)), H', ⟨by have := HJ6.out; first | omega | exact Nat.le_refl _⟩, ⟨uB HB.out⟩⟩
   case rest =>
    clear HC14
    try clear c1
    try clear p2
    try clear c3
    try clear c5
    try clear c6
    try clear c9
    try clear c9b0
    try clear c10
    try clear c10b0
    try clear c10b1
    try clear c10b2
    try clear c12
    try clear c12b0
    try clear c12b1
    try clear c12b2
    try clear c15
    try clear c15b0
    try clear c16
    try clear c16b0
    try clear c16b1
    try clear c16b2
    try clear c18
    try clear c18b0
    try clear c18b1
    try clear c18b2
    try clear p2
    obtain ⟨kq, a4, rfl, HA, HJ13, HB⟩ := hcut
    cases kq with
    | zero => exact absurd HA.out (by simp [switchbackref22_front.j1])
    | succ kj13 =>
     have H := HA.out
     clear HA
     simp only [switchbackref22_front.j1] at H
     replace H := Option.bind_eq_some_iff.mp H
     obtain ⟨t169, A200, H⟩ := H
     replace H : (if t169 = true then (if a4.size + 2 ≤ 9223372036854775807 then ((switchbackref22_Digits.f kj13 a3).bind fun t170 => (if (a4 ++ (⟨#[32, 82]⟩ : ByteArray)).size + t170.size ≤ 9223372036854775807 then (some ((a4 ++ (⟨#[32, 82]⟩ : ByteArray)) ++ t170)) else (none))) else (none)) else (some a4)) = some r := H
     have A20 := uZ A200
     clear A200
     by_cases c21 : t169 = true
     ·subst c21
      have H1 : (if a4.size + 2 ≤ 9223372036854775807 then ((switchbackref22_Digits.f kj13 a3).bind fun t170 => (if (a4 ++ (⟨#[32, 82]⟩ : ByteArray)).size + t170.size ≤ 9223372036854775807 then (some ((a4 ++ (⟨#[32, 82]⟩ : ByteArray)) ++ t170)) else (none))) else (none)) = some r := by rw [if_pos rfl] at H; exact H
      clear H
      have H := H1
      clear H1
      by_cases c22 : a4.size + 2 ≤ 9223372036854775807
      ·rw [if_pos c22] at H
       have c22b0 := eq_true c22
       have c22b1 : decide (a4.size + 2 ≤ 9223372036854775807) = true := decide_eq_true c22
       try have c22b2 : (9223372036854775807 < a4.size + 2) = False := eq_false (Nat.not_lt.2 c22)
       replace H := Option.bind_eq_some_iff.mp H
       obtain ⟨t170, A230, H⟩ := H
       replace H : (if (a4 ++ (⟨#[32, 82]⟩ : ByteArray)).size + t170.size ≤ 9223372036854775807 then (some ((a4 ++ (⟨#[32, 82]⟩ : ByteArray)) ++ t170)) else (none)) = some r := H
       have A23 := uZ A230
       clear A230
       by_cases c24 : (a4 ++ (⟨#[32, 82]⟩ : ByteArray)).size + t170.size ≤ 9223372036854775807
       ·rw [if_pos c24] at H
        have c24b0 := eq_true c24
        have c24b1 : decide ((a4 ++ (⟨#[32, 82]⟩ : ByteArray)).size + t170.size ≤ 9223372036854775807) = true := decide_eq_true c24
        try have c24b2 : (9223372036854775807 < (a4 ++ (⟨#[32, 82]⟩ : ByteArray)).size + t170.size) = False := eq_false (Nat.not_lt.2 c24)
        try (have c24b3 := c24b2; simp only [ByteArray.size_append, show (⟨#[32, 82]⟩ : ByteArray).size = 2 from rfl] at c24b3)
        obtain rfl := Option.some.inj H
        go_wp2_with (first | ((with_reducible refine gate_callee (f := 69) rfl ?_); refine goesL_ (some 30) rfl rfl Tryz.func69 (by kernel_rfl) rfl #[.int .i64 a0] rfl (by (try simp only [zA, List.map_cons, List.map_nil]); first | done | rfl | (simp only [zB, zC]; rfl)) ?_; (with_reducible refine (switchbackref22_three.calls a0 true _ A20.out).mono ?_); rintro e w' ⟨rfl, ⟨nd, rfl⟩⟩; refine ⟨_, rfl, ?_⟩) | ((with_reducible refine gate_callee (f := 37) rfl ?_); refine goesL_ (some 34) rfl rfl Tryz.func37 (by kernel_rfl) rfl #[.int .i64 a3] rfl (by (try simp only [zA, List.map_cons, List.map_nil]); first | done | rfl | (simp only [zB, zC]; rfl)) ?_; (with_reducible refine (switchbackref22_Digits.calls kj13 a3 t170 _ A23.out).mono ?_); rintro e w25 ⟨rfl, hb⟩; refine ⟨_, rfl, ?_⟩; have n0_ := uZ (below_step (uB HB.out) hb); clear HB; have HB := n0_; clear n0_; (try clear hb); (try clear hb2); (try clear hk); (try clear hi)))
        go_ret
        exact ⟨by first | rfl | (simp [errW_none, errW_some] <;> rfl) | (simp [*, errW_none, errW_some] <;> rfl), by repeat (first | (with_reducible first | exact HB.out | apply below_alloc | apply pw_below_drewN | apply below_drew1) | exact HB.out)⟩
       rw [if_neg c24] at H
       exact absurd H (by simp)
      rw [if_neg c22] at H
      exact absurd H (by simp)
     replace c21 := Bool.eq_false_iff.mpr c21
     subst c21
     have H1 : (some a4) = some r := by rw [if_neg (show ¬ (false = true) by decide)] at H; exact H
     clear H
     have H := H1
     clear H1
     obtain rfl := Option.some.inj H
     go_wp2_with (first | ((with_reducible refine gate_callee (f := 69) rfl ?_); refine goesL_ (some 30) rfl rfl Tryz.func69 (by kernel_rfl) rfl #[.int .i64 a0] rfl (by (try simp only [zA, List.map_cons, List.map_nil]); first | done | rfl | (simp only [zB, zC]; rfl)) ?_; (with_reducible refine (switchbackref22_three.calls a0 false _ A20.out).mono ?_); rintro e w' ⟨rfl, ⟨nd, rfl⟩⟩; refine ⟨_, rfl, ?_⟩))
     go_ret
     exact ⟨by first | rfl | (simp [errW_none, errW_some] <;> rfl) | (simp [*, errW_none, errW_some] <;> rfl), by repeat (first | (with_reducible first | exact HB.out | apply below_alloc | apply pw_below_drewN | apply below_drew1) | exact HB.out)⟩

end Go.Proofs.YtlhgfhmdhmgmpaaGreatDoor.PZ1

-- Written by gp.py for this claim.
namespace Go.Proofs.YtlhgfhmdhmgmpaaGreatDoor.PZ1
open Go.RowKit Go.Proofs.YtlhgfhmdhmgmpaaGreatDoorW.PrintWords Go.Proofs.YtlhgfhmdhmgmpaaGreatDoorW.PrintLast Go.Proofs.YtlhgfhmdhmgmpaaGreatDoorW.PrintMore
attribute [local go_sem] max2_int min2_int max_two min_two max_three min_three max_four min_four   -- for this text's walks alone
set_option linter.unusedVariables false
set_option linter.unusedSimpArgs false

/-! ### switchbackref22_number: function 55 -/
def switchbackref22_number.f (a0 : Int) : Option (Bool) := if a0 = 1 then (some true) else (if a0 = 4 then (some true) else (if a0 = 27 then (some true) else (if a0 = 28 then (some true) else (some (a0 == 48)))))
set_option maxHeartbeats 8000000 in
set_option maxRecDepth 100000 in
theorem switchbackref22_number.calls (a0 : Int) (r : Bool) (w : World) (h : switchbackref22_number.f a0 = some r) :
    Calls Tryz.prog 55 #[.int .i64 a0] w fun e w' => e = .returned (.bool r) ∧ Drawn0 w w' := by
  have H : (if a0 = 1 then (some true) else (if a0 = 4 then (some true) else (if a0 = 27 then (some true) else (if a0 = 28 then (some true) else (some (a0 == 48)))))) = some r := h
  clear h
  by_cases c2 : a0 = 1
  · rw [if_pos c2] at H
    have c2b0 : (a0 == 1) = true := beq_iff_eq.mpr c2
    have c2b1 : (a0 != 1) = false := bne_eq_false_iff_eq.mpr c2
    clear c2
    obtain rfl := Option.some.inj H
    go_enter Tryz.func55, Tryz.ntmps55
    go_wp2
    go_ret
    exact ⟨by first | rfl | (simp; done) | (simp [*]; done), by repeat (first | exact Drawn0.refl _ | apply Drawn0.step)⟩
  · rw [if_neg c2] at H
    have c2b0 : (a0 == 1) = false := beq_eq_false_iff_ne.mpr c2
    have c2b1 : (a0 != 1) = true := bne_iff_ne.mpr c2
    by_cases c3 : a0 = 4
    · rw [if_pos c3] at H
      have c3b0 : (a0 == 4) = true := beq_iff_eq.mpr c3
      have c3b1 : (a0 != 4) = false := bne_eq_false_iff_eq.mpr c3
      clear c3
      obtain rfl := Option.some.inj H
      go_enter Tryz.func55, Tryz.ntmps55
      go_wp2
      go_ret
      exact ⟨by first | rfl | (simp; done) | (simp [*]; done), by repeat (first | exact Drawn0.refl _ | apply Drawn0.step)⟩
    · rw [if_neg c3] at H
      have c3b0 : (a0 == 4) = false := beq_eq_false_iff_ne.mpr c3
      have c3b1 : (a0 != 4) = true := bne_iff_ne.mpr c3
      by_cases c4 : a0 = 27
      · rw [if_pos c4] at H
        have c4b0 : (a0 == 27) = true := beq_iff_eq.mpr c4
        have c4b1 : (a0 != 27) = false := bne_eq_false_iff_eq.mpr c4
        clear c4
        obtain rfl := Option.some.inj H
        go_enter Tryz.func55, Tryz.ntmps55
        go_wp2
        go_ret
        exact ⟨by first | rfl | (simp; done) | (simp [*]; done), by repeat (first | exact Drawn0.refl _ | apply Drawn0.step)⟩
      · rw [if_neg c4] at H
        have c4b0 : (a0 == 27) = false := beq_eq_false_iff_ne.mpr c4
        have c4b1 : (a0 != 27) = true := bne_iff_ne.mpr c4
        by_cases c5 : a0 = 28
        · rw [if_pos c5] at H
          have c5b0 : (a0 == 28) = true := beq_iff_eq.mpr c5
          have c5b1 : (a0 != 28) = false := bne_eq_false_iff_eq.mpr c5
          clear c5
          obtain rfl := Option.some.inj H
          go_enter Tryz.func55, Tryz.ntmps55
          go_wp2
          go_ret
          exact ⟨by first | rfl | (simp; done) | (simp [*]; done), by repeat (first | exact Drawn0.refl _ | apply Drawn0.step)⟩
        · rw [if_neg c5] at H
          have c5b0 : (a0 == 28) = false := beq_eq_false_iff_ne.mpr c5
          have c5b1 : (a0 != 28) = true := bne_iff_ne.mpr c5
          obtain rfl := Option.some.inj H
          go_enter Tryz.func55, Tryz.ntmps55
          go_wp2
          go_ret
          exact ⟨by first | rfl | (simp; done) | (simp [*]; done), by repeat (first | exact Drawn0.refl _ | apply Drawn0.step)⟩

end Go.Proofs.YtlhgfhmdhmgmpaaGreatDoor.PZ1

-- Written by gp.py for this claim.
namespace Go.Proofs.YtlhgfhmdhmgmpaaGreatDoor.PZ1
open Go.RowKit Go.Proofs.YtlhgfhmdhmgmpaaGreatDoorW.PrintWords Go.Proofs.YtlhgfhmdhmgmpaaGreatDoorW.PrintLast Go.Proofs.YtlhgfhmdhmgmpaaGreatDoorW.PrintMore
attribute [local go_sem] max2_int min2_int max_two min_two max_three min_three max_four min_four   -- for this text's walks alone
set_option linter.unusedVariables false
set_option linter.unusedSimpArgs false

namespace q_switchbackref22_Line
theorem uZ {p : Prop} (h : p) : Aside0 p := ⟨h⟩
theorem uK {p q : Prop} (h : p) (g : p → q := by intro h; (with_reducible repeat (first | apply blk_drewN | apply blk_drew | apply blk_alloc)); exact h) : q := g h
theorem uB {p q : Prop} (h : p) (g : p → q := by intro h; repeat (first | (with_reducible first | exact h | apply below_alloc | apply pw_below_drewN | apply below_drew1) | exact h)) : q := g h
theorem uC {p q s : Prop} (h : p) (j : s) (g : p → s → q := by intro h j; repeat (first | (with_reducible first | exact h | apply below_alloc | apply pw_below_drewN | apply below_drew1 | refine below_set ?_ j) | exact h)) : q := g h j
theorem zA : type_of% @blk_frozen := @blk_frozen
theorem zB : type_of% @blk_cell := @blk_cell
theorem zC : type_of% @below_step := @below_step
theorem zD : type_of% @List.map_toArray := @List.map_toArray
theorem zE : type_of% @List.length_drop := @List.length_drop
theorem zF : type_of% @List.length_take := @List.length_take
end q_switchbackref22_Line
open q_switchbackref22_Line

/-! ### switchbackref22_Line: function 26 -/
mutual
def switchbackref22_Line.j0 : Nat → ByteArray → Int → Int → Int → Int → Int → Int → List Int → Option (ByteArray)
  | 0, _, _, _, _, _, _, _, _ => none
  | k + 1, x3, x172000, x172001, x172002, x172003, x172004, x172005, x172006 => if x172000 = 2 then (if x3.size + 1 ≤ 9223372036854775807 then ((switchbackref22_Digits.f k (wrap64 (x172004))).bind fun t176 => (if (x3 ++ (⟨#[32]⟩ : ByteArray)).size + t176.size ≤ 9223372036854775807 then (switchbackref22_Line.j1 k ((x3 ++ (⟨#[32]⟩ : ByteArray)) ++ t176) x172000 x172001 x172002 x172003 x172004 x172005 x172006) else (none))) else (none)) else (switchbackref22_Line.j1 k x3 x172000 x172001 x172002 x172003 x172004 x172005 x172006)
def switchbackref22_Line.j1 : Nat → ByteArray → Int → Int → Int → Int → Int → Int → List Int → Option (ByteArray)
  | 0, _, _, _, _, _, _, _, _ => none
  | k + 1, x3, x172000, x172001, x172002, x172003, x172004, x172005, x172006 => (switchbackref17_Goes.f x172000 x172001 x172002 x172003 x172004 x172005 x172006).bind fun t177 => (if t177 = true then (if x3.size + 2 ≤ 9223372036854775807 then ((switchbackref22_Digits.f k x172005).bind fun t178 => (if (x3 ++ (⟨#[32, 76]⟩ : ByteArray)).size + t178.size ≤ 9223372036854775807 then (switchbackref22_Line.j2 k ((x3 ++ (⟨#[32, 76]⟩ : ByteArray)) ++ t178) x172000 x172001 x172002 x172003 x172004 x172005 x172006) else (none))) else (none)) else (switchbackref22_Line.j2 k x3 x172000 x172001 x172002 x172003 x172004 x172005 x172006))
def switchbackref22_Line.j2 : Nat → ByteArray → Int → Int → Int → Int → Int → Int → List Int → Option (ByteArray)
  | 0, _, _, _, _, _, _, _, _ => none
  | k + 1, x3, x172000, x172001, x172002, x172003, x172004, x172005, x172006 => switchbackref22_Line.l0 k x3 0 x172000 x172001 x172002 x172003 x172004 x172005 x172006
def switchbackref22_Line.l0 : Nat → ByteArray → Int → Int → Int → Int → Int → Int → Int → List Int → Option (ByteArray)
  | 0, _, _, _, _, _, _, _, _, _ => none
  | k + 1, x3, x5, x172000, x172001, x172002, x172003, x172004, x172005, x172006 => if x5 < (x172006.length : Int) then (if x3.size + 2 ≤ 9223372036854775807 then (if 0 ≤ x5 then ((switchbackref22_Digits.f k (rd x172006 x5)).bind fun t180 => (if (x3 ++ (⟨#[32, 76]⟩ : ByteArray)).size + t180.size ≤ 9223372036854775807 then (switchbackref22_Line.l0 k ((x3 ++ (⟨#[32, 76]⟩ : ByteArray)) ++ t180) (wrap64 (x5 + 1)) x172000 x172001 x172002 x172003 x172004 x172005 x172006) else (none))) else (none)) else (none)) else (some x3)
end
def switchbackref22_Line.f (k : Nat) (a0_0 : Int) (a0_1 : Int) (a0_2 : Int) (a0_3 : Int) (a0_4 : Int) (a0_5 : Int) (l0_6 : List Int) : Option (ByteArray) := if a0_0 = 0 then ((switchbackref22_Digits.f k a0_5).bind fun t172 => (if 1 + t172.size ≤ 9223372036854775807 then (if ((⟨#[76]⟩ : ByteArray) ++ t172).size + 1 ≤ 9223372036854775807 then (some (((⟨#[76]⟩ : ByteArray) ++ t172) ++ (⟨#[58]⟩ : ByteArray))) else (none)) else (none))) else ((switchbackref22_front.f k a0_0 a0_1 a0_2 a0_3).bind fun t173 => ((switchbackref22_number.f a0_0).bind fun t174 => (if t174 = true then (if t173.size + 1 ≤ 9223372036854775807 then ((switchbackref22_Digits.f k a0_3).bind fun t175 => (if (t173 ++ (⟨#[32]⟩ : ByteArray)).size + t175.size ≤ 9223372036854775807 then (switchbackref22_Line.j0 k ((t173 ++ (⟨#[32]⟩ : ByteArray)) ++ t175) a0_0 a0_1 a0_2 a0_3 a0_4 a0_5 l0_6) else (none))) else (none)) else (switchbackref22_Line.j0 k t173 a0_0 a0_1 a0_2 a0_3 a0_4 a0_5 l0_6))))
theorem switchbackref22_Line.mono_l : ∀ k, (∀ y0 y1 y2 y3 y4 y5 y6 y7, LeO (switchbackref22_Line.j0 k y0 y1 y2 y3 y4 y5 y6 y7) (switchbackref22_Line.j0 (k + 1) y0 y1 y2 y3 y4 y5 y6 y7)) ∧ (∀ y0 y1 y2 y3 y4 y5 y6 y7, LeO (switchbackref22_Line.j1 k y0 y1 y2 y3 y4 y5 y6 y7) (switchbackref22_Line.j1 (k + 1) y0 y1 y2 y3 y4 y5 y6 y7)) ∧ (∀ y0 y1 y2 y3 y4 y5 y6 y7, LeO (switchbackref22_Line.j2 k y0 y1 y2 y3 y4 y5 y6 y7) (switchbackref22_Line.j2 (k + 1) y0 y1 y2 y3 y4 y5 y6 y7)) ∧ (∀ y0 y1 y2 y3 y4 y5 y6 y7 y8, LeO (switchbackref22_Line.l0 k y0 y1 y2 y3 y4 y5 y6 y7 y8) (switchbackref22_Line.l0 (k + 1) y0 y1 y2 y3 y4 y5 y6 y7 y8))
  | 0 => ⟨fun _ _ _ _ _ _ _ _ r h => by simp [switchbackref22_Line.j0] at h, fun _ _ _ _ _ _ _ _ r h => by simp [switchbackref22_Line.j1] at h, fun _ _ _ _ _ _ _ _ r h => by simp [switchbackref22_Line.j2] at h, fun _ _ _ _ _ _ _ _ _ r h => by simp [switchbackref22_Line.l0] at h⟩
  | k + 1 => by
    obtain ⟨ih0, ih1, ih2, ih3⟩ := switchbackref22_Line.mono_l k
    refine ⟨?_, ?_, ?_, ?_⟩
    · intro y0 y1 y2 y3 y4 y5 y6 y7
      unfold switchbackref22_Line.j0
      repeat' first
      | (with_reducible exact ih0 _ _ _ _ _ _ _ _)
      | (with_reducible exact ih1 _ _ _ _ _ _ _ _)
      | (with_reducible exact ih2 _ _ _ _ _ _ _ _)
      | (with_reducible exact ih3 _ _ _ _ _ _ _ _ _)
      | (with_reducible exact switchbackref22_Digits.mono _ _)
      | (with_reducible exact switchbackref22_front.mono _ _ _ _ _)
      | (with_reducible exact LeO.refl _)
      | (with_reducible exact LeO.none _)
      | (with_reducible refine LeO.ite ?_ ?_)
      | (with_reducible refine LeO.bind ?_ (fun _ => ?_))
      | exact ih0 _ _ _ _ _ _ _ _
      | exact ih1 _ _ _ _ _ _ _ _
      | exact ih2 _ _ _ _ _ _ _ _
      | exact ih3 _ _ _ _ _ _ _ _ _
      | exact switchbackref22_Digits.mono _ _
      | exact switchbackref22_front.mono _ _ _ _ _
      | exact LeO.none _
      | refine LeO.ite ?_ ?_
      | refine LeO.bind ?_ (fun _ => ?_)
    · intro y0 y1 y2 y3 y4 y5 y6 y7
      unfold switchbackref22_Line.j1
      repeat' first
      | (with_reducible exact ih0 _ _ _ _ _ _ _ _)
      | (with_reducible exact ih1 _ _ _ _ _ _ _ _)
      | (with_reducible exact ih2 _ _ _ _ _ _ _ _)
      | (with_reducible exact ih3 _ _ _ _ _ _ _ _ _)
      | (with_reducible exact switchbackref22_Digits.mono _ _)
      | (with_reducible exact switchbackref22_front.mono _ _ _ _ _)
      | (with_reducible exact LeO.refl _)
      | (with_reducible exact LeO.none _)
      | (with_reducible refine LeO.ite ?_ ?_)
      | (with_reducible refine LeO.bind ?_ (fun _ => ?_))
      | exact ih0 _ _ _ _ _ _ _ _
      | exact ih1 _ _ _ _ _ _ _ _
      | exact ih2 _ _ _ _ _ _ _ _
      | exact ih3 _ _ _ _ _ _ _ _ _
      | exact switchbackref22_Digits.mono _ _
      | exact switchbackref22_front.mono _ _ _ _ _
      | exact LeO.none _
      | refine LeO.ite ?_ ?_
      | refine LeO.bind ?_ (fun _ => ?_)
    · intro y0 y1 y2 y3 y4 y5 y6 y7
      unfold switchbackref22_Line.j2
      repeat' first
      | (with_reducible exact ih0 _ _ _ _ _ _ _ _)
      | (with_reducible exact ih1 _ _ _ _ _ _ _ _)
      | (with_reducible exact ih2 _ _ _ _ _ _ _ _)
      | (with_reducible exact ih3 _ _ _ _ _ _ _ _ _)
      | (with_reducible exact switchbackref22_Digits.mono _ _)
      | (with_reducible exact switchbackref22_front.mono _ _ _ _ _)
      | (with_reducible exact LeO.refl _)
      | (with_reducible exact LeO.none _)
      | (with_reducible refine LeO.ite ?_ ?_)
      | (with_reducible refine LeO.bind ?_ (fun _ => ?_))
      | exact ih0 _ _ _ _ _ _ _ _
      | exact ih1 _ _ _ _ _ _ _ _
      | exact ih2 _ _ _ _ _ _ _ _
      | exact ih3 _ _ _ _ _ _ _ _ _
      | exact switchbackref22_Digits.mono _ _
      | exact switchbackref22_front.mono _ _ _ _ _
      | exact LeO.none _
      | refine LeO.ite ?_ ?_
      | refine LeO.bind ?_ (fun _ => ?_)
    · intro y0 y1 y2 y3 y4 y5 y6 y7 y8
      unfold switchbackref22_Line.l0
      repeat' first
      | (with_reducible exact ih0 _ _ _ _ _ _ _ _)
      | (with_reducible exact ih1 _ _ _ _ _ _ _ _)
      | (with_reducible exact ih2 _ _ _ _ _ _ _ _)
      | (with_reducible exact ih3 _ _ _ _ _ _ _ _ _)
      | (with_reducible exact switchbackref22_Digits.mono _ _)
      | (with_reducible exact switchbackref22_front.mono _ _ _ _ _)
      | (with_reducible exact LeO.refl _)
      | (with_reducible exact LeO.none _)
      | (with_reducible refine LeO.ite ?_ ?_)
      | (with_reducible refine LeO.bind ?_ (fun _ => ?_))
      | exact ih0 _ _ _ _ _ _ _ _
      | exact ih1 _ _ _ _ _ _ _ _
      | exact ih2 _ _ _ _ _ _ _ _
      | exact ih3 _ _ _ _ _ _ _ _ _
      | exact switchbackref22_Digits.mono _ _
      | exact switchbackref22_front.mono _ _ _ _ _
      | exact LeO.none _
      | refine LeO.ite ?_ ?_
      | refine LeO.bind ?_ (fun _ => ?_)
theorem switchbackref22_Line.mono : ∀ a0 a1 a2 a3 a4 a5 a6 k, LeO (switchbackref22_Line.f k a0 a1 a2 a3 a4 a5 a6) (switchbackref22_Line.f (k + 1) a0 a1 a2 a3 a4 a5 a6) := by
  intro a0 a1 a2 a3 a4 a5 a6 k
  obtain ⟨ih0, ih1, ih2, ih3⟩ := switchbackref22_Line.mono_l k
  unfold switchbackref22_Line.f
  repeat' first
      | (with_reducible exact ih0 _ _ _ _ _ _ _ _)
      | (with_reducible exact ih1 _ _ _ _ _ _ _ _)
      | (with_reducible exact ih2 _ _ _ _ _ _ _ _)
      | (with_reducible exact ih3 _ _ _ _ _ _ _ _ _)
      | (with_reducible exact switchbackref22_Digits.mono _ _)
      | (with_reducible exact switchbackref22_front.mono _ _ _ _ _)
      | (with_reducible exact LeO.refl _)
      | (with_reducible exact LeO.none _)
      | (with_reducible refine LeO.ite ?_ ?_)
      | (with_reducible refine LeO.bind ?_ (fun _ => ?_))
      | exact ih0 _ _ _ _ _ _ _ _
      | exact ih1 _ _ _ _ _ _ _ _
      | exact ih2 _ _ _ _ _ _ _ _
      | exact ih3 _ _ _ _ _ _ _ _ _
      | exact switchbackref22_Digits.mono _ _
      | exact switchbackref22_front.mono _ _ _ _ _
      | exact LeO.none _
      | refine LeO.ite ?_ ?_
      | refine LeO.bind ?_ (fun _ => ?_)
set_option maxHeartbeats 8000000 in
set_option maxRecDepth 100000 in
theorem switchbackref22_Line.calls (k : Nat) (a0_0 : Int) (a0_1 : Int) (a0_2 : Int) (a0_3 : Int) (a0_4 : Int) (a0_5 : Int) (A0_6 : Option Addr) (c0_6 : Nat) (l0_6 : List Int) (r : ByteArray) (w : World) (hr0_6 : Kd.C (Kd.int .i64) w A0_6 l0_6.length l0_6) (hc0_6 : l0_6.length ≤ c0_6) (h : switchbackref22_Line.f k a0_0 a0_1 a0_2 a0_3 a0_4 a0_5 l0_6 = some r) :
    Calls Tryz.prog 26 #[.agg #[.int .i64 a0_0, .int .i64 a0_1, .int .i64 a0_2, .int .i64 a0_3, .int .u32 a0_4, .int .i64 a0_5, .slice A0_6 l0_6.length c0_6]] w fun e w' => e = .returned (.string r) ∧ Below w.heap.size w w' := by
 have hu49 := Tryz.underlying49
 have HR0_6 := uZ hr0_6
 have HC0_6 := uZ hc0_6
 clear hr0_6 hc0_6
 have HB := uZ (Below.refl w.heap.size w)
 have H : (if a0_0 = 0 then ((switchbackref22_Digits.f k a0_5).bind fun af => (if 1 + af.size ≤ 9223372036854775807 then (if ((⟨#[76]⟩ : ByteArray) ++ af).size + 1 ≤ 9223372036854775807 then (some (((⟨#[76]⟩ : ByteArray) ++ af) ++ (⟨#[58]⟩ : ByteArray))) else (none)) else (none))) else ((switchbackref22_front.f k a0_0 a0_1 a0_2 a0_3).bind fun aa => ((switchbackref22_number.f a0_0).bind fun t174 => (if t174 = true then (if aa.size + 1 ≤ 9223372036854775807 then ((switchbackref22_Digits.f k a0_3).bind fun ad => (if (aa ++ (⟨#[32]⟩ : ByteArray)).size + ad.size ≤ 9223372036854775807 then (switchbackref22_Line.j0 k ((aa ++ (⟨#[32]⟩ : ByteArray)) ++ ad) a0_0 a0_1 a0_2 a0_3 a0_4 a0_5 l0_6) else (none))) else (none)) else (switchbackref22_Line.j0 k aa a0_0 a0_1 a0_2 a0_3 a0_4 a0_5 l0_6))))) = some r := h
 clear h
 by_cases c2 : a0_0 = 0
 ·rw [if_pos c2] at H
  have c2b0 : (a0_0 == 0) = true := beq_iff_eq.mpr c2
  have c2b1 : (a0_0 != 0) = false := bne_eq_false_iff_eq.mpr c2
  clear c2
  replace H := Option.bind_eq_some_iff.mp H
  obtain ⟨af, A30, H⟩ := H
  replace H : (if 1 + af.size ≤ 9223372036854775807 then (if ((⟨#[76]⟩ : ByteArray) ++ af).size + 1 ≤ 9223372036854775807 then (some (((⟨#[76]⟩ : ByteArray) ++ af) ++ (⟨#[58]⟩ : ByteArray))) else (none)) else (none)) = some r := H
  have A3 := uZ A30
  clear A30
  by_cases c4 : 1 + af.size ≤ 9223372036854775807
  ·rw [if_pos c4] at H
   have c4b0 := eq_true c4
   have c4b1 : decide (1 + af.size ≤ 9223372036854775807) = true := decide_eq_true c4
   try have c4b2 : (9223372036854775807 < 1 + af.size) = False := eq_false (Nat.not_lt.2 c4)
   by_cases c5 : ((⟨#[76]⟩ : ByteArray) ++ af).size + 1 ≤ 9223372036854775807
   ·rw [if_pos c5] at H
    have c5b0 := eq_true c5
    have c5b1 : decide (((⟨#[76]⟩ : ByteArray) ++ af).size + 1 ≤ 9223372036854775807) = true := decide_eq_true c5
    try have c5b2 : (9223372036854775807 < ((⟨#[76]⟩ : ByteArray) ++ af).size + 1) = False := eq_false (Nat.not_lt.2 c5)
    try (have c5b3 := c5b2; simp only [ByteArray.size_append, show (⟨#[76]⟩ : ByteArray).size = 1 from rfl] at c5b3)
    obtain rfl := Option.some.inj H
    go_enter Tryz.func26, Tryz.ntmps26
    go_wp2_with (first | ((with_reducible refine gate_dst (N := 1) rfl ?_); refine box_event ?hg (N := 1) ?hd (cs := #[.int .i64 a0_0, .int .i64 a0_1, .int .i64 a0_2, .int .i64 a0_3, .int .u32 a0_4, .int .i64 a0_5, .slice A0_6 l0_6.length c0_6]) (t := 49) ?hr ?_; (case hd => rfl); (case hg => rfl); (case hr => first | (go_simp; done) | (go_simp; rfl)); intro a8 hg w6 hbox hb; have n0_ := uZ (zC (uB HB.out) hb); have n1_ := uZ (hbox); have n2_ := uZ ((by rw [hg]; exact (below_size (uB HB.out)) : w.heap.size ≤ a8)); have n3_ := uZ ((by rw [hg]; exact (below_size (uB HB.out)) : w.heap.size ≤ a8)); clear HB; have HB := n0_; have a7 := n1_; have GW171 := n2_; have ab := n3_; clear n0_ n1_ n2_ n3_; clear hb hbox hg; have hcz7_0 : w6.cell? ⟨a8, 0, none⟩ = some (.int .i64 a0_0) := (zB a7.out 0).trans rfl; have hcz7_1 : w6.cell? ⟨a8, 1, none⟩ = some (.int .i64 a0_1) := (zB a7.out 1).trans rfl; have hcz7_2 : w6.cell? ⟨a8, 2, none⟩ = some (.int .i64 a0_2) := (zB a7.out 2).trans rfl; have hcz7_3 : w6.cell? ⟨a8, 3, none⟩ = some (.int .i64 a0_3) := (zB a7.out 3).trans rfl; have hcz7_4 : w6.cell? ⟨a8, 4, none⟩ = some (.int .u32 a0_4) := (zB a7.out 4).trans rfl; have hcz7_5 : w6.cell? ⟨a8, 5, none⟩ = some (.int .i64 a0_5) := (zB a7.out 5).trans rfl; have hcz7_6 : w6.cell? ⟨a8, 6, none⟩ = some (.slice A0_6 l0_6.length c0_6) := (zB a7.out 6).trans rfl; have hfz7_0 := zA a7.out 0; have hfz7_1 := zA a7.out 1; have hfz7_2 := zA a7.out 2; have hfz7_3 := zA a7.out 3; have hfz7_4 := zA a7.out 4; have hfz7_5 := zA a7.out 5; have hfz7_6 := zA a7.out 6) | ((with_reducible refine gate_callee (f := 37) rfl ?_); refine goesL_ (some 11) rfl rfl Tryz.func37 (by kernel_rfl) rfl #[.int .i64 a0_5] rfl (by (try simp only [zD, List.map_cons, List.map_nil]); first | done | rfl | (simp only [zE, zF]; rfl)) ?_; (with_reducible refine (switchbackref22_Digits.calls k a0_5 af _ A3.out).mono ?_); rintro e w8 ⟨rfl, hb⟩; refine ⟨_, rfl, ?_⟩; have n0_ := uZ (blk_below (g := a8) (o := .cells #[.int .i64 a0_0, .int .i64 a0_1, .int .i64 a0_2, .int .i64 a0_3, .int .u32 a0_4, .int .i64 a0_5, .slice A0_6 l0_6.length c0_6] 49 (0, 0)) (uK a7.out) hb); have n1_ := uZ (zC (uC HB.out ab.out) hb); clear a7; clear HB; have a7 := n0_; have HB := n1_; clear n0_ n1_; (try clear hb); (try clear hb2); (try clear hk); (try clear hi)))
    go_ret
    exact ⟨by first | rfl | (simp [errW_none, errW_some] <;> rfl) | (simp [*, errW_none, errW_some] <;> rfl), by repeat (first | (with_reducible first | exact HB.out | apply below_alloc | apply pw_below_drewN | apply below_drew1 | refine below_set ?_ ab.out) | exact HB.out)⟩
   rw [if_neg c5] at H
   exact absurd H (by simp)
  rw [if_neg c4] at H
  exact absurd H (by simp)
 rw [if_neg c2] at H
 have c2b0 : (a0_0 == 0) = false := beq_eq_false_iff_ne.mpr c2
 have c2b1 : (a0_0 != 0) = true := bne_iff_ne.mpr c2
 replace H := Option.bind_eq_some_iff.mp H
 obtain ⟨aa, A90, H⟩ := H
 replace H : ((switchbackref22_number.f a0_0).bind fun t174 => (if t174 = true then (if aa.size + 1 ≤ 9223372036854775807 then ((switchbackref22_Digits.f k a0_3).bind fun ad => (if (aa ++ (⟨#[32]⟩ : ByteArray)).size + ad.size ≤ 9223372036854775807 then (switchbackref22_Line.j0 k ((aa ++ (⟨#[32]⟩ : ByteArray)) ++ ad) a0_0 a0_1 a0_2 a0_3 a0_4 a0_5 l0_6) else (none))) else (none)) else (switchbackref22_Line.j0 k aa a0_0 a0_1 a0_2 a0_3 a0_4 a0_5 l0_6))) = some r := H
 have A9 := uZ A90
 clear A90
 replace H := Option.bind_eq_some_iff.mp H
 obtain ⟨t174, A100, H⟩ := H
 replace H : (if t174 = true then (if aa.size + 1 ≤ 9223372036854775807 then ((switchbackref22_Digits.f k a0_3).bind fun ad => (if (aa ++ (⟨#[32]⟩ : ByteArray)).size + ad.size ≤ 9223372036854775807 then (switchbackref22_Line.j0 k ((aa ++ (⟨#[32]⟩ : ByteArray)) ++ ad) a0_0 a0_1 a0_2 a0_3 a0_4 a0_5 l0_6) else (none))) else (none)) else (switchbackref22_Line.j0 k aa a0_0 a0_1 a0_2 a0_3 a0_4 a0_5 l0_6)) = some r := H
 have A10 := uZ A100
 clear A100
 have HC11 := uZ H
 clear H
 go_enter Tryz.func26, Tryz.ntmps26
 go_upto_if 25 with (first | ((with_reducible refine gate_dst (N := 1) rfl ?_); refine box_event ?hg (N := 1) ?hd (cs := #[.int .i64 a0_0, .int .i64 a0_1, .int .i64 a0_2, .int .i64 a0_3, .int .u32 a0_4, .int .i64 a0_5, .slice A0_6 l0_6.length c0_6]) (t := 49) ?hr ?_; (case hd => rfl); (case hg => rfl); (case hr => first | (go_simp; done) | (go_simp; rfl)); intro a8 hg w12 hbox hb; have n0_ := uZ (zC (uB HB.out) hb); have n1_ := uZ (hbox); have n2_ := uZ ((by rw [hg]; exact (below_size (uB HB.out)) : w.heap.size ≤ a8)); have n3_ := uZ ((by rw [hg]; exact (below_size (uB HB.out)) : w.heap.size ≤ a8)); clear HB; have HB := n0_; have a7 := n1_; have GW171 := n2_; have ab := n3_; clear n0_ n1_ n2_ n3_; clear hb hbox hg; have hcz13_0 : w12.cell? ⟨a8, 0, none⟩ = some (.int .i64 a0_0) := (zB a7.out 0).trans rfl; have hcz13_1 : w12.cell? ⟨a8, 1, none⟩ = some (.int .i64 a0_1) := (zB a7.out 1).trans rfl; have hcz13_2 : w12.cell? ⟨a8, 2, none⟩ = some (.int .i64 a0_2) := (zB a7.out 2).trans rfl; have hcz13_3 : w12.cell? ⟨a8, 3, none⟩ = some (.int .i64 a0_3) := (zB a7.out 3).trans rfl; have hcz13_4 : w12.cell? ⟨a8, 4, none⟩ = some (.int .u32 a0_4) := (zB a7.out 4).trans rfl; have hcz13_5 : w12.cell? ⟨a8, 5, none⟩ = some (.int .i64 a0_5) := (zB a7.out 5).trans rfl; have hcz13_6 : w12.cell? ⟨a8, 6, none⟩ = some (.slice A0_6 l0_6.length c0_6) := (zB a7.out 6).trans rfl; have hfz13_0 := zA a7.out 0; have hfz13_1 := zA a7.out 1; have hfz13_2 := zA a7.out 2; have hfz13_3 := zA a7.out 3; have hfz13_4 := zA a7.out 4; have hfz13_5 := zA a7.out 5; have hfz13_6 := zA a7.out 6) | ((with_reducible refine gate_callee (f := 54) rfl ?_); refine goesL_ (some 22) rfl rfl Tryz.func54 (by kernel_rfl) rfl #[.int .i64 a0_0, .int .i64 a0_1, .int .i64 a0_2, .int .i64 a0_3] rfl (by (try simp only [zD, List.map_cons, List.map_nil]); first | done | rfl | (simp only [zE, zF]; rfl)) ?_; (with_reducible refine (switchbackref22_front.calls k a0_0 a0_1 a0_2 a0_3 aa _ A9.out).mono ?_); rintro e w14 ⟨rfl, hb⟩; refine ⟨_, rfl, ?_⟩; have n0_ := uZ (blk_below (g := a8) (o := .cells #[.int .i64 a0_0, .int .i64 a0_1, .int .i64 a0_2, .int .i64 a0_3, .int .u32 a0_4, .int .i64 a0_5, .slice A0_6 l0_6.length c0_6] 49 (0, 0)) (uK a7.out) hb); have n1_ := uZ (zC (uC HB.out ab.out) hb); clear a7; clear HB; have a7 := n0_; have HB := n1_; clear n0_ n1_; (try clear hb); (try clear hb2); (try clear hk); (try clear hi); have hcz15_0 : w14.cell? ⟨a8, 0, none⟩ = some (.int .i64 a0_0) := (zB a7.out 0).trans rfl; have hcz15_1 : w14.cell? ⟨a8, 1, none⟩ = some (.int .i64 a0_1) := (zB a7.out 1).trans rfl; have hcz15_2 : w14.cell? ⟨a8, 2, none⟩ = some (.int .i64 a0_2) := (zB a7.out 2).trans rfl; have hcz15_3 : w14.cell? ⟨a8, 3, none⟩ = some (.int .i64 a0_3) := (zB a7.out 3).trans rfl; have hcz15_4 : w14.cell? ⟨a8, 4, none⟩ = some (.int .u32 a0_4) := (zB a7.out 4).trans rfl; have hcz15_5 : w14.cell? ⟨a8, 5, none⟩ = some (.int .i64 a0_5) := (zB a7.out 5).trans rfl; have hcz15_6 : w14.cell? ⟨a8, 6, none⟩ = some (.slice A0_6 l0_6.length c0_6) := (zB a7.out 6).trans rfl; have hfz15_0 := zA a7.out 0; have hfz15_1 := zA a7.out 1; have hfz15_2 := zA a7.out 2; have hfz15_3 := zA a7.out 3; have hfz15_4 := zA a7.out 4; have hfz15_5 := zA a7.out 5; have hfz15_6 := zA a7.out 6) | ((with_reducible refine gate_callee (f := 55) rfl ?_); refine goesL_ (some 25) rfl rfl Tryz.func55 (by kernel_rfl) rfl #[.int .i64 a0_0] rfl (by (try simp only [zD, List.map_cons, List.map_nil]); first | done | rfl | (simp only [zE, zF]; rfl)) ?_; (with_reducible refine (switchbackref22_number.calls a0_0 t174 _ A10.out).mono ?_); rintro e w' ⟨rfl, ⟨nd, rfl⟩⟩; refine ⟨_, rfl, ?_⟩))
 (try simp only [Act.put, List.setIfInBounds_toArray, List.set_cons_zero, List.set_cons_succ])
 go_cut [3] (fun v3 wc => ∃ (kq : Nat) (ac : ByteArray), v3 = .string ac ∧ Aside0 (switchbackref22_Line.j0 kq ac a0_0 a0_1 a0_2 a0_3 a0_4 a0_5 l0_6 = some r) ∧ Aside0 (kq ≤ k) ∧ Aside0 (wc.heap[a8]? = some (.cells #[.int .i64 a0_0, .int .i64 a0_1, .int .i64 a0_2, .int .i64 a0_3, .int .u32 a0_4, .int .i64 a0_5, (.slice A0_6 l0_6.length c0_6)] 49 (0, 0))) ∧ Aside0 (Below w.heap.size w wc))
 case first =>
  have H := HC11.out
  clear HC11
  by_cases c16 : t174 = true
  ·subst c16
   have H1 : (if aa.size + 1 ≤ 9223372036854775807 then ((switchbackref22_Digits.f k a0_3).bind fun ad => (if (aa ++ (⟨#[32]⟩ : ByteArray)).size + ad.size ≤ 9223372036854775807 then (switchbackref22_Line.j0 k ((aa ++ (⟨#[32]⟩ : ByteArray)) ++ ad) a0_0 a0_1 a0_2 a0_3 a0_4 a0_5 l0_6) else (none))) else (none)) = some r := by rw [if_pos rfl] at H; exact H
   clear H
   have H := H1
   clear H1
   by_cases c17 : aa.size + 1 ≤ 9223372036854775807
   ·rw [if_pos c17] at H
    have c17b0 := eq_true c17
    have c17b1 : decide (aa.size + 1 ≤ 9223372036854775807) = true := decide_eq_true c17
    try have c17b2 : (9223372036854775807 < aa.size + 1) = False := eq_false (Nat.not_lt.2 c17)
    replace H := Option.bind_eq_some_iff.mp H
    obtain ⟨ad, A180, H⟩ := H
    replace H : (if (aa ++ (⟨#[32]⟩ : ByteArray)).size + ad.size ≤ 9223372036854775807 then (switchbackref22_Line.j0 k ((aa ++ (⟨#[32]⟩ : ByteArray)) ++ ad) a0_0 a0_1 a0_2 a0_3 a0_4 a0_5 l0_6) else (none)) = some r := H
    have A18 := uZ A180
    clear A180
    by_cases c19 : (aa ++ (⟨#[32]⟩ : ByteArray)).size + ad.size ≤ 9223372036854775807
    ·rw [if_pos c19] at H
     have c19b0 := eq_true c19
     have c19b1 : decide ((aa ++ (⟨#[32]⟩ : ByteArray)).size + ad.size ≤ 9223372036854775807) = true := decide_eq_true c19
     try have c19b2 : (9223372036854775807 < (aa ++ (⟨#[32]⟩ : ByteArray)).size + ad.size) = False := eq_false (Nat.not_lt.2 c19)
     try (have c19b3 := c19b2; simp only [ByteArray.size_append, show (⟨#[32]⟩ : ByteArray).size = 1 from rfl] at c19b3)
     have H' := uZ H
     clear H
     have hcz20_0 : w14.cell? ⟨a8, 0, none⟩ = some (.int .i64 a0_0) := (zB a7.out 0).trans rfl
     have hcz20_1 : w14.cell? ⟨a8, 1, none⟩ = some (.int .i64 a0_1) := (zB a7.out 1).trans rfl
     have hcz20_2 : w14.cell? ⟨a8, 2, none⟩ = some (.int .i64 a0_2) := (zB a7.out 2).trans rfl
     have hcz20_3 : w14.cell? ⟨a8, 3, none⟩ = some (.int .i64 a0_3) := (zB a7.out 3).trans rfl
     have hcz20_4 : w14.cell? ⟨a8, 4, none⟩ = some (.int .u32 a0_4) := (zB a7.out 4).trans rfl
     have hcz20_5 : w14.cell? ⟨a8, 5, none⟩ = some (.int .i64 a0_5) := (zB a7.out 5).trans rfl
     have hcz20_6 : w14.cell? ⟨a8, 6, none⟩ = some (.slice A0_6 l0_6.length c0_6) := (zB a7.out 6).trans rfl
     have hfz20_0 := zA a7.out 0
     have hfz20_1 := zA a7.out 1
     have hfz20_2 := zA a7.out 2
     have hfz20_3 := zA a7.out 3
     have hfz20_4 := zA a7.out 4
     have hfz20_5 := zA a7.out 5
     have hfz20_6 := zA a7.out 6
     go_wp2_with (first | ((with_reducible refine gate_callee (f := 37) rfl ?_); refine goesL_ (some 30) rfl rfl Tryz.func37 (by kernel_rfl) rfl #[.int .i64 a0_3] rfl (by (try simp only [zD, List.map_cons, List.map_nil]); first | done | rfl | (simp only [zE, zF]; rfl)) ?_; (with_reducible refine (switchbackref22_Digits.calls k a0_3 ad _ A18.out).mono ?_); rintro e w21 ⟨rfl, hb⟩; refine ⟨_, rfl, ?_⟩; have n0_ := uZ (blk_below (g := a8) (o := .cells #[.int .i64 a0_0, .int .i64 a0_1, .int .i64 a0_2, .int .i64 a0_3, .int .u32 a0_4, .int .i64 a0_5, .slice A0_6 l0_6.length c0_6] 49 (0, 0)) (uK a7.out) hb); have n1_ := uZ (zC (uC HB.out ab.out) hb); clear a7; clear HB; have a7 := n0_; have HB := n1_; clear n0_ n1_; (try clear hb); (try clear hb2); (try clear hk); (try clear hi)))
     go_meet
     case rel => exact ⟨_, ((aa ++ (⟨#[32]⟩ : ByteArray)) ++ ad), (by first | rfl | (simp; done) | (simp [*]; done)), H', ⟨by first | omega | exact Nat.le_refl _⟩, ⟨uK a7.out⟩, ⟨uC HB.out ab.out⟩⟩
    rw [if_neg c19] at H
    exact absurd H (by simp)
   rw [if_neg c17] at H
   exact absurd H (by simp)
  replace c16 := Bool.eq_false_iff.mpr c16
  subst c16
  have H1 : (switchbackref22_Line.j0 k aa a0_0 a0_1 a0_2 a0_3 a0_4 a0_5 l0_6) = some r := by rw [if_neg (show ¬ (false = true) by decide)] at H; exact H
  clear H
  have H := H1
  clear H1
  have H' := uZ H
  clear H
  go_wp2
  go_meet
  case rel => exact ⟨_, (aa), (by first | rfl | (simp; done) | (simp [*]; done)), H', ⟨by first | omega | exact Nat.le_refl _⟩, ⟨uK a7.out⟩, ⟨uC HB.out ab.out⟩⟩
 case rest =>
  clear HC11
  try clear c1
  try clear c2
  try clear c2b0
  try clear c2b1
  try clear p2
  try clear c3
  try clear c4
  try clear c4b0
  try clear c4b1
  try clear c4b2
  try clear c5
  try clear c5b0
  try clear c5b1
  try clear c5b2
  try clear c16
  try clear c17
  try clear c17b0
  try clear c17b1
  try clear c17b2
  try clear c19
  try clear c19b0
  try clear c19b1
  try clear c19b2
  try clear hcz13_0
  try clear hcz13_1
  try clear hcz13_2
  try clear hcz13_3
  try clear hcz13_4
  try clear hcz13_5
  try clear hcz13_6
  try clear hcz15_0
  try clear hcz15_1
  try clear hcz15_2
  try clear hcz15_3
  try clear hcz15_4
  try clear hcz15_5
  try clear hcz15_6
  try clear hcz20_0
  try clear hcz20_1
  try clear hcz20_2
  try clear hcz20_3
  try clear hcz20_4
  try clear hcz20_5
  try clear hcz20_6
  try clear hcz7_0
  try clear hcz7_1
  try clear hcz7_2
  try clear hcz7_3
  try clear hcz7_4
  try clear hcz7_5
  try clear hcz7_6
  try clear hfz13_0
  try clear hfz13_1
  try clear hfz13_2
  try clear hfz13_3
  try clear hfz13_4
  try clear hfz13_5
  try clear hfz13_6
  try clear hfz15_0
  try clear hfz15_1
  try clear hfz15_2
  try clear hfz15_3
  try clear hfz15_4
  try clear hfz15_5
  try clear hfz15_6
  try clear hfz20_0
  try clear hfz20_1
  try clear hfz20_2
  try clear hfz20_3
  try clear hfz20_4
  try clear hfz20_5
  try clear hfz20_6
  try clear hfz7_0
  try clear hfz7_1
  try clear hfz7_2
  try clear hfz7_3
  try clear hfz7_4
  try clear hfz7_5
  try clear hfz7_6
  obtain ⟨kq, ac, rfl, HA, HJ10, a7, HB⟩ := hcut
  cases kq with
  | zero => exact absurd HA.out (by simp [switchbackref22_Line.j0])
  | succ kj10 =>
   have H := HA.out
   clear HA
   simp only [switchbackref22_Line.j0] at H
   have HC22 := uZ H
   clear H
   have hcz23_0 : wc.cell? ⟨a8, 0, none⟩ = some (.int .i64 a0_0) := (zB a7.out 0).trans rfl
   have hcz23_1 : wc.cell? ⟨a8, 1, none⟩ = some (.int .i64 a0_1) := (zB a7.out 1).trans rfl
   have hcz23_2 : wc.cell? ⟨a8, 2, none⟩ = some (.int .i64 a0_2) := (zB a7.out 2).trans rfl
   have hcz23_3 : wc.cell? ⟨a8, 3, none⟩ = some (.int .i64 a0_3) := (zB a7.out 3).trans rfl
   have hcz23_4 : wc.cell? ⟨a8, 4, none⟩ = some (.int .u32 a0_4) := (zB a7.out 4).trans rfl
   have hcz23_5 : wc.cell? ⟨a8, 5, none⟩ = some (.int .i64 a0_5) := (zB a7.out 5).trans rfl
   have hcz23_6 : wc.cell? ⟨a8, 6, none⟩ = some (.slice A0_6 l0_6.length c0_6) := (zB a7.out 6).trans rfl
   have hfz23_0 := zA a7.out 0
   have hfz23_1 := zA a7.out 1
   have hfz23_2 := zA a7.out 2
   have hfz23_3 := zA a7.out 3
   have hfz23_4 := zA a7.out 4
   have hfz23_5 := zA a7.out 5
   have hfz23_6 := zA a7.out 6
   go_upto_if 34 with (fail)
   go_cut [3] (fun v3 wc => ∃ (kq : Nat) (a9 : ByteArray), v3 = .string a9 ∧ Aside0 (switchbackref22_Line.j1 kq a9 a0_0 a0_1 a0_2 a0_3 a0_4 a0_5 l0_6 = some r) ∧ Aside0 (kq ≤ kj10) ∧ Aside0 (wc.heap[a8]? = some (.cells #[.int .i64 a0_0, .int .i64 a0_1, .int .i64 a0_2, .int .i64 a0_3, .int .u32 a0_4, .int .i64 a0_5, (.slice A0_6 l0_6.length c0_6)] 49 (0, 0))) ∧ Aside0 (Below w.heap.size w wc))
   case first =>
    have H := HC22.out
    clear HC22
    by_cases c24 : a0_0 = 2
    ·rw [if_pos c24] at H
     have c24b0 : (a0_0 == 2) = true := beq_iff_eq.mpr c24
     have c24b1 : (a0_0 != 2) = false := bne_eq_false_iff_eq.mpr c24
     clear c24
     (first | rw [c24b0] | (simp only [i64_w, i32_w]; rw [c24b0]) | skip)
     by_cases c25 : ac.size + 1 ≤ 9223372036854775807
     ·rw [if_pos c25] at H
      have c25b0 := eq_true c25
      have c25b1 : decide (ac.size + 1 ≤ 9223372036854775807) = true := decide_eq_true c25
      try have c25b2 : (9223372036854775807 < ac.size + 1) = False := eq_false (Nat.not_lt.2 c25)
      replace H := Option.bind_eq_some_iff.mp H
      obtain ⟨t176, A260, H⟩ := H
      replace H : (if (ac ++ (⟨#[32]⟩ : ByteArray)).size + t176.size ≤ 9223372036854775807 then (switchbackref22_Line.j1 kj10 ((ac ++ (⟨#[32]⟩ : ByteArray)) ++ t176) a0_0 a0_1 a0_2 a0_3 a0_4 a0_5 l0_6) else (none)) = some r := H
      have A26 := uZ A260
      clear A260
      by_cases c27 : (ac ++ (⟨#[32]⟩ : ByteArray)).size + t176.size ≤ 9223372036854775807
      ·rw [if_pos c27] at H
       have c27b0 := eq_true c27
       have c27b1 : decide ((ac ++ (⟨#[32]⟩ : ByteArray)).size + t176.size ≤ 9223372036854775807) = true := decide_eq_true c27
       try have c27b2 : (9223372036854775807 < (ac ++ (⟨#[32]⟩ : ByteArray)).size + t176.size) = False := eq_false (Nat.not_lt.2 c27)
       try (have c27b3 := c27b2; simp only [ByteArray.size_append, show (⟨#[32]⟩ : ByteArray).size = 1 from rfl] at c27b3)
       have H' := uZ H
       clear H
       have hcz28_0 : wc.cell? ⟨a8, 0, none⟩ = some (.int .i64 a0_0) := (zB a7.out 0).trans rfl
       have hcz28_1 : wc.cell? ⟨a8, 1, none⟩ = some (.int .i64 a0_1) := (zB a7.out 1).trans rfl
       have hcz28_2 : wc.cell? ⟨a8, 2, none⟩ = some (.int .i64 a0_2) := (zB a7.out 2).trans rfl
       have hcz28_3 : wc.cell? ⟨a8, 3, none⟩ = some (.int .i64 a0_3) := (zB a7.out 3).trans rfl
       have hcz28_4 : wc.cell? ⟨a8, 4, none⟩ = some (.int .u32 a0_4) := (zB a7.out 4).trans rfl
       have hcz28_5 : wc.cell? ⟨a8, 5, none⟩ = some (.int .i64 a0_5) := (zB a7.out 5).trans rfl
       have hcz28_6 : wc.cell? ⟨a8, 6, none⟩ = some (.slice A0_6 l0_6.length c0_6) := (zB a7.out 6).trans rfl
       have hfz28_0 := zA a7.out 0
       have hfz28_1 := zA a7.out 1
       have hfz28_2 := zA a7.out 2
       have hfz28_3 := zA a7.out 3
       have hfz28_4 := zA a7.out 4
       have hfz28_5 := zA a7.out 5
       have hfz28_6 := zA a7.out 6
       go_wp2_with (first | ((with_reducible refine gate_callee (f := 37) rfl ?_); refine goesL_ (some 40) rfl rfl Tryz.func37 (by kernel_rfl) rfl #[.int .i64 (wrap64 (a0_4))] rfl (by (try simp only [zD, List.map_cons, List.map_nil]); first | done | rfl | (simp only [zE, zF]; rfl)) ?_; (with_reducible refine (switchbackref22_Digits.calls kj10 (wrap64 (a0_4)) t176 _ A26.out).mono ?_); rintro e w29 ⟨rfl, hb⟩; refine ⟨_, rfl, ?_⟩; have n0_ := uZ (blk_below (g := a8) (o := .cells #[.int .i64 a0_0, .int .i64 a0_1, .int .i64 a0_2, .int .i64 a0_3, .int .u32 a0_4, .int .i64 a0_5, .slice A0_6 l0_6.length c0_6] 49 (0, 0)) (uK a7.out) hb); have n1_ := uZ (zC (uC HB.out ab.out) hb); clear a7; clear HB; have a7 := n0_; have HB := n1_; clear n0_ n1_; (try clear hb); (try clear hb2); (try clear hk); (try clear hi)))
       go_meet
       case rel => exact ⟨_, ((ac ++ (⟨#[32]⟩ : ByteArray)) ++ t176), (by first | rfl | (simp; done) | (simp [*]; done)), H', ⟨by have := HJ10.out; first | omega | exact Nat.le_refl _⟩, ⟨uK a7.out⟩, ⟨uC HB.out ab.out⟩⟩
      rw [if_neg c27] at H
      exact absurd H (by simp)
     rw [if_neg c25] at H
     exact absurd H (by simp)
    rw [if_neg c24] at H
    have c24b0 : (a0_0 == 2) = false := beq_eq_false_iff_ne.mpr c24
    have c24b1 : (a0_0 != 2) = true := bne_iff_ne.mpr c24
    (first | rw [c24b0] | (simp only [i64_w, i32_w]; rw [c24b0]) | skip)
    have H' := uZ H
    clear H
    go_wp2
    go_meet
    case rel => exact ⟨_, (ac), (by first | rfl | (simp; done) | (simp [*]; done)), H', ⟨by have := HJ10.out; first | omega | exact Nat.le_refl _⟩, ⟨uK a7.out⟩, ⟨uC HB.out ab.out⟩⟩
   case rest =>
    clear HC22
    try clear c1
    try clear c2
    try clear c2b0
    try clear c2b1
    try clear p2
    try clear c3
    try clear c4
    try clear c4b0
    try clear c4b1
    try clear c4b2
    try clear c5
    try clear c5b0
    try clear c5b1
    try clear c5b2
    try clear p6
    try clear c16
    try clear c17
    try clear c17b0
    try clear c17b1
    try clear c17b2
    try clear c19
    try clear c19b0
    try clear c19b1
    try clear c19b2
    try clear c24
    try clear c24b0
    try clear c24b1
    try clear c25
    try clear c25b0
    try clear c25b1
    try clear c25b2
    try clear c26
    try clear c27
    try clear c27b0
    try clear c27b1
    try clear c27b2
    try clear hcz13_0
    try clear hcz13_1
    try clear hcz13_2
    try clear hcz13_3
    try clear hcz13_4
    try clear hcz13_5
    try clear hcz13_6
    try clear hcz15_0
    try clear hcz15_1
    try clear hcz15_2
    try clear hcz15_3
    try clear hcz15_4
    try clear hcz15_5
    try clear hcz15_6
    try clear hcz20_0
    try clear hcz20_1
    try clear hcz20_2
    try clear hcz20_3
    try clear hcz20_4
    try clear hcz20_5
    try clear hcz20_6
    try clear hcz23_0
    try clear hcz23_1
    try clear hcz23_2
    try clear hcz23_3
    try clear hcz23_4
    try clear hcz23_5
    try clear hcz23_6
    try clear hcz28_0
    try clear hcz28_1
    try clear hcz28_2
    try clear hcz28_3
    try clear hcz28_4
    try clear hcz28_5
    try clear hcz28_6
    try clear hcz7_0
    try clear hcz7_1
    try clear hcz7_2
    try clear hcz7_3
    try clear hcz7_4
    try clear hcz7_5
    try clear hcz7_6
    try clear hfz13_0
    try clear hfz13_1
    try clear hfz13_2
    try clear hfz13_3
    try clear hfz13_4
    try clear hfz13_5
    try clear hfz13_6
    try clear hfz15_0
    try clear hfz15_1
    try clear hfz15_2
    try clear hfz15_3
    try clear hfz15_4
    try clear hfz15_5
    try clear hfz15_6
    try clear hfz20_0
    try clear hfz20_1
    try clear hfz20_2
    try clear hfz20_3
    try clear hfz20_4
    try clear hfz20_5
    try clear hfz20_6
    try clear hfz23_0
    try clear hfz23_1
    try clear hfz23_2
    try clear hfz23_3
    try clear hfz23_4
    try clear hfz23_5
    try clear hfz23_6
    try clear hfz28_0
    try clear hfz28_1
    try clear hfz28_2
    try clear hfz28_3
    try clear hfz28_4
    try clear hfz28_5
    try clear hfz28_6
    try clear hfz7_0
    try clear hfz7_1
    try clear hfz7_2
    try clear hfz7_3
    try clear hfz7_4
    try clear hfz7_5
    try clear hfz7_6
    try clear p2
    obtain ⟨kq, a9, rfl, HA, HJ21, a7, HB⟩ := hcut
    cases kq with
    | zero => exact absurd HA.out (by simp [switchbackref22_Line.j1])
    | succ kj21 =>
     have H := HA.out
     clear HA
     simp only [switchbackref22_Line.j1] at H
     replace H := Option.bind_eq_some_iff.mp H
     obtain ⟨t177, A300, H⟩ := H
     replace H : (if t177 = true then (if a9.size + 2 ≤ 9223372036854775807 then ((switchbackref22_Digits.f kj21 a0_5).bind fun t178 => (if (a9 ++ (⟨#[32, 76]⟩ : ByteArray)).size + t178.size ≤ 9223372036854775807 then (switchbackref22_Line.j2 kj21 ((a9 ++ (⟨#[32, 76]⟩ : ByteArray)) ++ t178) a0_0 a0_1 a0_2 a0_3 a0_4 a0_5 l0_6) else (none))) else (none)) else (switchbackref22_Line.j2 kj21 a9 a0_0 a0_1 a0_2 a0_3 a0_4 a0_5 l0_6)) = some r := H
     have A30 := uZ A300
     clear A300
     have HC31 := uZ H
     clear H
     have hcz32_0 : wc.cell? ⟨a8, 0, none⟩ = some (.int .i64 a0_0) := (zB a7.out 0).trans rfl
     have hcz32_1 : wc.cell? ⟨a8, 1, none⟩ = some (.int .i64 a0_1) := (zB a7.out 1).trans rfl
     have hcz32_2 : wc.cell? ⟨a8, 2, none⟩ = some (.int .i64 a0_2) := (zB a7.out 2).trans rfl
     have hcz32_3 : wc.cell? ⟨a8, 3, none⟩ = some (.int .i64 a0_3) := (zB a7.out 3).trans rfl
     have hcz32_4 : wc.cell? ⟨a8, 4, none⟩ = some (.int .u32 a0_4) := (zB a7.out 4).trans rfl
     have hcz32_5 : wc.cell? ⟨a8, 5, none⟩ = some (.int .i64 a0_5) := (zB a7.out 5).trans rfl
     have hcz32_6 : wc.cell? ⟨a8, 6, none⟩ = some (.slice A0_6 l0_6.length c0_6) := (zB a7.out 6).trans rfl
     have hfz32_0 := zA a7.out 0
     have hfz32_1 := zA a7.out 1
     have hfz32_2 := zA a7.out 2
     have hfz32_3 := zA a7.out 3
     have hfz32_4 := zA a7.out 4
     have hfz32_5 := zA a7.out 5
     have hfz32_6 := zA a7.out 6
     go_upto_if 44 with (first | ((with_reducible refine gate_callee (f := 56) rfl ?_); refine goesL_ (some 43) rfl rfl Tryz.func56 (by kernel_rfl) rfl #[.agg #[.int .i64 a0_0, .int .i64 a0_1, .int .i64 a0_2, .int .i64 a0_3, .int .u32 a0_4, .int .i64 a0_5, .slice A0_6 l0_6.length c0_6]] rfl (by (try simp only [zD, List.map_cons, List.map_nil]); first | done | rfl | (simp only [zE, zF]; rfl)) ?_; (with_reducible refine (switchbackref17_Goes.calls a0_0 a0_1 a0_2 a0_3 a0_4 a0_5 _ _ l0_6 t177 _ ?side1 ?side2 A30.out).mono ?_); (case side1 => repeat (first | exact (Kd.C_below HR0_6.out HB.out) | (with_reducible refine Kd.C_alloc ?_ _) | (with_reducible refine Kd.C_drewN ?_ _) | (with_reducible refine Kd.C_drew ?_))); (case side2 => exact HC0_6.out); rintro e w33 ⟨rfl, hb⟩; refine ⟨_, rfl, ?_⟩; have n0_ := uZ (blk_below (g := a8) (o := .cells #[.int .i64 a0_0, .int .i64 a0_1, .int .i64 a0_2, .int .i64 a0_3, .int .u32 a0_4, .int .i64 a0_5, .slice A0_6 l0_6.length c0_6] 49 (0, 0)) (uK a7.out) hb); have n1_ := uZ (zC (uC HB.out ab.out) hb); clear a7; clear HB; have a7 := n0_; have HB := n1_; clear n0_ n1_; (try clear hb); (try clear hb2); (try clear hk); (try clear hi)))
     (try simp only [Act.put, List.setIfInBounds_toArray, List.set_cons_zero, List.set_cons_succ])
     go_cut [3] (fun v3 wc => ∃ (kq : Nat) (x3_30 : ByteArray), v3 = .string x3_30 ∧ Aside0 (switchbackref22_Line.j2 kq x3_30 a0_0 a0_1 a0_2 a0_3 a0_4 a0_5 l0_6 = some r) ∧ Aside0 (kq ≤ kj21) ∧ Aside0 (wc.heap[a8]? = some (.cells #[.int .i64 a0_0, .int .i64 a0_1, .int .i64 a0_2, .int .i64 a0_3, .int .u32 a0_4, .int .i64 a0_5, (.slice A0_6 l0_6.length c0_6)] 49 (0, 0))) ∧ Aside0 (Below w.heap.size w wc))
     case first =>
      have H := HC31.out
      clear HC31
      by_cases c34 : t177 = true
      ·subst c34
       have H1 : (if a9.size + 2 ≤ 9223372036854775807 then ((switchbackref22_Digits.f kj21 a0_5).bind fun t178 => (if (a9 ++ (⟨#[32, 76]⟩ : ByteArray)).size + t178.size ≤ 9223372036854775807 then (switchbackref22_Line.j2 kj21 ((a9 ++ (⟨#[32, 76]⟩ : ByteArray)) ++ t178) a0_0 a0_1 a0_2 a0_3 a0_4 a0_5 l0_6) else (none))) else (none)) = some r := by rw [if_pos rfl] at H; exact H
       clear H
       have H := H1
       clear H1
       by_cases c35 : a9.size + 2 ≤ 9223372036854775807
       ·rw [if_pos c35] at H
        have c35b0 := eq_true c35
        have c35b1 : decide (a9.size + 2 ≤ 9223372036854775807) = true := decide_eq_true c35
        try have c35b2 : (9223372036854775807 < a9.size + 2) = False := eq_false (Nat.not_lt.2 c35)
        replace H := Option.bind_eq_some_iff.mp H
        obtain ⟨t178, A360, H⟩ := H
        replace H : (if (a9 ++ (⟨#[32, 76]⟩ : ByteArray)).size + t178.size ≤ 9223372036854775807 then (switchbackref22_Line.j2 kj21 ((a9 ++ (⟨#[32, 76]⟩ : ByteArray)) ++ t178) a0_0 a0_1 a0_2 a0_3 a0_4 a0_5 l0_6) else (none)) = some r := H
        have A36 := uZ A360
        clear A360
        by_cases c37 : (a9 ++ (⟨#[32, 76]⟩ : ByteArray)).size + t178.size ≤ 9223372036854775807
        ·rw [if_pos c37] at H
         have c37b0 := eq_true c37
         have c37b1 : decide ((a9 ++ (⟨#[32, 76]⟩ : ByteArray)).size + t178.size ≤ 9223372036854775807) = true := decide_eq_true c37
         try have c37b2 : (9223372036854775807 < (a9 ++ (⟨#[32, 76]⟩ : ByteArray)).size + t178.size) = False := eq_false (Nat.not_lt.2 c37)
         try (have c37b3 := c37b2; simp only [ByteArray.size_append, show (⟨#[32, 76]⟩ : ByteArray).size = 2 from rfl] at c37b3)
         have H' := uZ H
         clear H
         have hcz38_0 : w33.cell? ⟨a8, 0, none⟩ = some (.int .i64 a0_0) := (zB a7.out 0).trans rfl
         have hcz38_1 : w33.cell? ⟨a8, 1, none⟩ = some (.int .i64 a0_1) := (zB a7.out 1).trans rfl
         have hcz38_2 : w33.cell? ⟨a8, 2, none⟩ = some (.int .i64 a0_2) := (zB a7.out 2).trans rfl
         have hcz38_3 : w33.cell? ⟨a8, 3, none⟩ = some (.int .i64 a0_3) := (zB a7.out 3).trans rfl
         have hcz38_4 : w33.cell? ⟨a8, 4, none⟩ = some (.int .u32 a0_4) := (zB a7.out 4).trans rfl
         have hcz38_5 : w33.cell? ⟨a8, 5, none⟩ = some (.int .i64 a0_5) := (zB a7.out 5).trans rfl
         have hcz38_6 : w33.cell? ⟨a8, 6, none⟩ = some (.slice A0_6 l0_6.length c0_6) := (zB a7.out 6).trans rfl
         have hfz38_0 := zA a7.out 0
         have hfz38_1 := zA a7.out 1
         have hfz38_2 := zA a7.out 2
         have hfz38_3 := zA a7.out 3
         have hfz38_4 := zA a7.out 4
         have hfz38_5 := zA a7.out 5
         have hfz38_6 := zA a7.out 6
         go_wp2_with (first | ((with_reducible refine gate_callee (f := 37) rfl ?_); refine goesL_ (some 49) rfl rfl Tryz.func37 (by kernel_rfl) rfl #[.int .i64 a0_5] rfl (by (try simp only [zD, List.map_cons, List.map_nil]); first | done | rfl | (simp only [zE, zF]; rfl)) ?_; (with_reducible refine (switchbackref22_Digits.calls kj21 a0_5 t178 _ A36.out).mono ?_); rintro e w39 ⟨rfl, hb⟩; refine ⟨_, rfl, ?_⟩; have n0_ := uZ (blk_below (g := a8) (o := .cells #[.int .i64 a0_0, .int .i64 a0_1, .int .i64 a0_2, .int .i64 a0_3, .int .u32 a0_4, .int .i64 a0_5, .slice A0_6 l0_6.length c0_6] 49 (0, 0)) (uK a7.out) hb); have n1_ := uZ (zC (uC HB.out ab.out) hb); clear a7; clear HB; have a7 := n0_; have HB := n1_; clear n0_ n1_; (try clear hb); (try clear hb2); (try clear hk); (try clear hi)))
         go_meet
         case rel => exact ⟨_, ((a9 ++ (⟨#[32, 76]⟩ : ByteArray)) ++ t178), (by first | rfl | (simp; done) | (simp [*]; done)), H', ⟨by have := HJ10.out; have := HJ21.out; first | omega | exact Nat.le_refl _⟩, ⟨uK a7.out⟩, ⟨uC HB.out ab.out⟩⟩
        rw [if_neg c37] at H
        exact absurd H (by simp)
       rw [if_neg c35] at H
       exact absurd H (by simp)
      replace c34 := Bool.eq_false_iff.mpr c34
      subst c34
      have H1 : (switchbackref22_Line.j2 kj21 a9 a0_0 a0_1 a0_2 a0_3 a0_4 a0_5 l0_6) = some r := by rw [if_neg (show ¬ (false = true) by decide)] at H; exact H
      clear H
      have H := H1
      clear H1
      have H' := uZ H
      clear H
      go_wp2
      go_meet
      case rel => exact ⟨_, (a9), (by first | rfl | (simp; done) | (simp [*]; done)), H', ⟨by have := HJ10.out; have := HJ21.out; first | omega | exact Nat.le_refl _⟩, ⟨uK a7.out⟩, ⟨uC HB.out ab.out⟩⟩
     case rest =>
      clear HC31
      try clear c1
      try clear c2
      try clear c2b0
      try clear c2b1
      try clear p2
      try clear c3
      try clear c4
      try clear c4b0
      try clear c4b1
      try clear c4b2
      try clear c5
      try clear c5b0
      try clear c5b1
      try clear c5b2
      try clear p6
      try clear c16
      try clear c17
      try clear c17b0
      try clear c17b1
      try clear c17b2
      try clear c19
      try clear c19b0
      try clear c19b1
      try clear c19b2
      try clear c24
      try clear c24b0
      try clear c24b1
      try clear c25
      try clear c25b0
      try clear c25b1
      try clear c25b2
      try clear c26
      try clear c27
      try clear c27b0
      try clear c27b1
      try clear c27b2
      try clear c34
      try clear c35
      try clear c35b0
      try clear c35b1
      try clear c35b2
      try clear c37
      try clear c37b0
      try clear c37b1
      try clear c37b2
      try clear hcz13_0
      try clear hcz13_1
      try clear hcz13_2
      try clear hcz13_3
      try clear hcz13_4
      try clear hcz13_5
      try clear hcz13_6
      try clear hcz15_0
      try clear hcz15_1
      try clear hcz15_2
      try clear hcz15_3
      try clear hcz15_4
      try clear hcz15_5
      try clear hcz15_6
      try clear hcz20_0
      try clear hcz20_1
      try clear hcz20_2
      try clear hcz20_3
      try clear hcz20_4
      try clear hcz20_5
      try clear hcz20_6
      try clear hcz23_0
      try clear hcz23_1
      try clear hcz23_2
      try clear hcz23_3
      try clear hcz23_4
      try clear hcz23_5
      try clear hcz23_6
      try clear hcz28_0
      try clear hcz28_1
      try clear hcz28_2
      try clear hcz28_3
      try clear hcz28_4
      try clear hcz28_5
      try clear hcz28_6
      try clear hcz32_0
      try clear hcz32_1
      try clear hcz32_2
      try clear hcz32_3
      try clear hcz32_4
      try clear hcz32_5
      try clear hcz32_6
      try clear hcz38_0
      try clear hcz38_1
      try clear hcz38_2
      try clear hcz38_3
      try clear hcz38_4
      try clear hcz38_5
      try clear hcz38_6
      try clear hcz7_0
      try clear hcz7_1
      try clear hcz7_2
      try clear hcz7_3
      try clear hcz7_4
      try clear hcz7_5
      try clear hcz7_6
      try clear hfz13_0
      try clear hfz13_1
      try clear hfz13_2
      try clear hfz13_3
      try clear hfz13_4
      try clear hfz13_5
      try clear hfz13_6
      try clear hfz15_0
      try clear hfz15_1
      try clear hfz15_2
      try clear hfz15_3
      try clear hfz15_4
      try clear hfz15_5
      try clear hfz15_6
      try clear hfz20_0
      try clear hfz20_1
      try clear hfz20_2
      try clear hfz20_3
      try clear hfz20_4
      try clear hfz20_5
      try clear hfz20_6
      try clear hfz23_0
      try clear hfz23_1
      try clear hfz23_2
      try clear hfz23_3
      try clear hfz23_4
      try clear hfz23_5
      try clear hfz23_6
      try clear hfz28_0
      try clear hfz28_1
      try clear hfz28_2
      try clear hfz28_3
      try clear hfz28_4
      try clear hfz28_5
      try clear hfz28_6
      try clear hfz32_0
      try clear hfz32_1
      try clear hfz32_2
      try clear hfz32_3
      try clear hfz32_4
      try clear hfz32_5
      try clear hfz32_6
      try clear hfz38_0
      try clear hfz38_1
      try clear hfz38_2
      try clear hfz38_3
      try clear hfz38_4
      try clear hfz38_5
      try clear hfz38_6
      try clear hfz7_0
      try clear hfz7_1
      try clear hfz7_2
      try clear hfz7_3
      try clear hfz7_4
      try clear hfz7_5
      try clear hfz7_6
      try clear p2
      try clear p6
      obtain ⟨kq, x3_30, rfl, HA, HJ30, a7, HB⟩ := hcut
      cases kq with
      | zero => exact absurd HA.out (by simp [switchbackref22_Line.j2])
      | succ kj30 =>
       have H := HA.out
       clear HA
       simp only [switchbackref22_Line.j2] at H
       have H' := uZ H
       clear H
       go_wp2
       go_loopg [3, 5] kj30 (fun kq v3 v5 w' => ∃ (x3_4 : ByteArray) (ae : Int), v3 = .string x3_4 ∧ v5 = .int .i64 ae ∧ Aside0 (switchbackref22_Line.l0 kq x3_4 ae a0_0 a0_1 a0_2 a0_3 a0_4 a0_5 l0_6 = some r) ∧ Aside0 (kq ≤ kj30) ∧ Aside0 (w'.heap[a8]? = some (.cells #[.int .i64 a0_0, .int .i64 a0_1, .int .i64 a0_2, .int .i64 a0_3, .int .u32 a0_4, .int .i64 a0_5, (.slice A0_6 l0_6.length c0_6)] 49 (0, 0))) ∧ Aside0 (Below w.heap.size w w'))
       case atStart => exact ⟨(x3_30), (0), (by first | rfl | (simp; done) | (simp [*]; done)), (by first | rfl | (simp; done) | (simp [*]; done)), H', ⟨Nat.le_refl _⟩, ⟨uK a7.out⟩, ⟨uC HB.out ab.out⟩⟩
       case round =>
        clear H'
        try clear c1
        try clear c2
        try clear c2b0
        try clear c2b1
        try clear p2
        try clear c3
        try clear c4
        try clear c4b0
        try clear c4b1
        try clear c4b2
        try clear c5
        try clear c5b0
        try clear c5b1
        try clear c5b2
        try clear p6
        try clear c16
        try clear c17
        try clear c17b0
        try clear c17b1
        try clear c17b2
        try clear c19
        try clear c19b0
        try clear c19b1
        try clear c19b2
        try clear c24
        try clear c24b0
        try clear c24b1
        try clear c25
        try clear c25b0
        try clear c25b1
        try clear c25b2
        try clear c26
        try clear c27
        try clear c27b0
        try clear c27b1
        try clear c27b2
        try clear c34
        try clear c35
        try clear c35b0
        try clear c35b1
        try clear c35b2
        try clear c37
        try clear c37b0
        try clear c37b1
        try clear c37b2
        try clear hcz13_0
        try clear hcz13_1
        try clear hcz13_2
        try clear hcz13_3
        try clear hcz13_4
        try clear hcz13_5
        try clear hcz13_6
        try clear hcz15_0
        try clear hcz15_1
        try clear hcz15_2
        try clear hcz15_3
        try clear hcz15_4
        try clear hcz15_5
        try clear hcz15_6
        try clear hcz20_0
        try clear hcz20_1
        try clear hcz20_2
        try clear hcz20_3
        try clear hcz20_4
        try clear hcz20_5
        try clear hcz20_6
        try clear hcz23_0
        try clear hcz23_1
        try clear hcz23_2
        try clear hcz23_3
        try clear hcz23_4
        try clear hcz23_5
        try clear hcz23_6
        try clear hcz28_0
        try clear hcz28_1
        try clear hcz28_2
        try clear hcz28_3
        try clear hcz28_4
        try clear hcz28_5
        try clear hcz28_6
        try clear hcz32_0
        try clear hcz32_1
        try clear hcz32_2
        try clear hcz32_3
        try clear hcz32_4
        try clear hcz32_5
        try clear hcz32_6
        try clear hcz38_0
        try clear hcz38_1
        try clear hcz38_2
        try clear hcz38_3
        try clear hcz38_4
        try clear hcz38_5
        try clear hcz38_6
        try clear hcz7_0
        try clear hcz7_1
        try clear hcz7_2
        try clear hcz7_3
        try clear hcz7_4
        try clear hcz7_5
        try clear hcz7_6
        try clear hfz13_0
        try clear hfz13_1
        try clear hfz13_2
        try clear hfz13_3
        try clear hfz13_4
        try clear hfz13_5
        try clear hfz13_6
        try clear hfz15_0
        try clear hfz15_1
        try clear hfz15_2
        try clear hfz15_3
        try clear hfz15_4
        try clear hfz15_5
        try clear hfz15_6
        try clear hfz20_0
        try clear hfz20_1
        try clear hfz20_2
        try clear hfz20_3
        try clear hfz20_4
        try clear hfz20_5
        try clear hfz20_6
        try clear hfz23_0
        try clear hfz23_1
        try clear hfz23_2
        try clear hfz23_3
        try clear hfz23_4
        try clear hfz23_5
        try clear hfz23_6
        try clear hfz28_0
        try clear hfz28_1
        try clear hfz28_2
        try clear hfz28_3
        try clear hfz28_4
        try clear hfz28_5
        try clear hfz28_6
        try clear hfz32_0
        try clear hfz32_1
        try clear hfz32_2
        try clear hfz32_3
        try clear hfz32_4
        try clear hfz32_5
        try clear hfz32_6
        try clear hfz38_0
        try clear hfz38_1
        try clear hfz38_2
        try clear hfz38_3
        try clear hfz38_4
        try clear hfz38_5
        try clear hfz38_6
        try clear hfz7_0
        try clear hfz7_1
        try clear hfz7_2
        try clear hfz7_3
        try clear hfz7_4
        try clear hfz7_5
        try clear hfz7_6
        try clear p2
        try clear p6
        obtain ⟨x3_4, ae, rfl, rfl, HA, HK4, a7, HB⟩ := hrel
        cases gk with
        | zero => exact absurd HA.out (by simp [switchbackref22_Line.l0])
        | succ k4 =>
         have H := HA.out
         clear HA
         simp only [switchbackref22_Line.l0] at H
         by_cases c40 : ae < (l0_6.length : Int)
         ·rw [if_pos c40] at H
          have c40b0 : decide (ae < (l0_6.length : Int)) = true := decide_eq_true c40
          clear c40
          by_cases c41 : x3_4.size + 2 ≤ 9223372036854775807
          ·rw [if_pos c41] at H
           have c41b0 := eq_true c41
           have c41b1 : decide (x3_4.size + 2 ≤ 9223372036854775807) = true := decide_eq_true c41
           try have c41b2 : (9223372036854775807 < x3_4.size + 2) = False := eq_false (Nat.not_lt.2 c41)
           by_cases c42 : 0 ≤ ae
           ·rw [if_pos c42] at H
            have c42b0 : decide (0 ≤ ae) = true := decide_eq_true c42
            clear c42
            replace H := Option.bind_eq_some_iff.mp H
            obtain ⟨t180, A430, H⟩ := H
            replace H : (if (x3_4 ++ (⟨#[32, 76]⟩ : ByteArray)).size + t180.size ≤ 9223372036854775807 then (switchbackref22_Line.l0 k4 ((x3_4 ++ (⟨#[32, 76]⟩ : ByteArray)) ++ t180) (wrap64 (ae + 1)) a0_0 a0_1 a0_2 a0_3 a0_4 a0_5 l0_6) else (none)) = some r := H
            have A43 := uZ A430
            clear A430
            by_cases c44 : (x3_4 ++ (⟨#[32, 76]⟩ : ByteArray)).size + t180.size ≤ 9223372036854775807
            ·rw [if_pos c44] at H
             have c44b0 := eq_true c44
             have c44b1 : decide ((x3_4 ++ (⟨#[32, 76]⟩ : ByteArray)).size + t180.size ≤ 9223372036854775807) = true := decide_eq_true c44
             try have c44b2 : (9223372036854775807 < (x3_4 ++ (⟨#[32, 76]⟩ : ByteArray)).size + t180.size) = False := eq_false (Nat.not_lt.2 c44)
             try (have c44b3 := c44b2; simp only [ByteArray.size_append, show (⟨#[32, 76]⟩ : ByteArray).size = 2 from rfl] at c44b3)
             have H' := uZ H
             clear H
             have hcz45_0 : wr.cell? ⟨a8, 0, none⟩ = some (.int .i64 a0_0) := (zB a7.out 0).trans rfl
             have hcz45_1 : wr.cell? ⟨a8, 1, none⟩ = some (.int .i64 a0_1) := (zB a7.out 1).trans rfl
             have hcz45_2 : wr.cell? ⟨a8, 2, none⟩ = some (.int .i64 a0_2) := (zB a7.out 2).trans rfl
             have hcz45_3 : wr.cell? ⟨a8, 3, none⟩ = some (.int .i64 a0_3) := (zB a7.out 3).trans rfl
             have hcz45_4 : wr.cell? ⟨a8, 4, none⟩ = some (.int .u32 a0_4) := (zB a7.out 4).trans rfl
             have hcz45_5 : wr.cell? ⟨a8, 5, none⟩ = some (.int .i64 a0_5) := (zB a7.out 5).trans rfl
             have hcz45_6 : wr.cell? ⟨a8, 6, none⟩ = some (.slice A0_6 l0_6.length c0_6) := (zB a7.out 6).trans rfl
             have hfz45_0 := zA a7.out 0
             have hfz45_1 := zA a7.out 1
             have hfz45_2 := zA a7.out 2
             have hfz45_3 := zA a7.out 3
             have hfz45_4 := zA a7.out 4
             have hfz45_5 := zA a7.out 5
             have hfz45_6 := zA a7.out 6
             have p179 : 0 ≤ (ae : Int) := of_decide_eq_true (by first | (with_reducible assumption) | assumption)
             have q179 : ae < (l0_6.length : Int) := of_decide_eq_true (by first | (with_reducible assumption) | assumption)
             obtain ⟨ad179, e179, hx179_0⟩ := Kd.at_int HR0_6.out ae p179 q179
             cases e179
             replace hx179_0 := (HB.out.cell (World.block_lt_of_cell? w _ hx179_0)).trans hx179_0
             replace p179 := eq_true p179
             replace q179 := eq_true q179
             go_wp2_with (first | ((with_reducible refine gate_callee (f := 37) rfl ?_); refine goesL_ (some 65) rfl rfl Tryz.func37 (by kernel_rfl) rfl #[.int .i64 (rd l0_6 ae)] rfl (by (try simp only [zD, List.map_cons, List.map_nil]); first | done | rfl | (simp only [zE, zF]; rfl)) ?_; (with_reducible refine (switchbackref22_Digits.calls k4 (rd l0_6 ae) t180 _ A43.out).mono ?_); rintro e w46 ⟨rfl, hb⟩; refine ⟨_, rfl, ?_⟩; have n0_ := uZ (blk_below (g := a8) (o := .cells #[.int .i64 a0_0, .int .i64 a0_1, .int .i64 a0_2, .int .i64 a0_3, .int .u32 a0_4, .int .i64 a0_5, .slice (some ad179) l0_6.length c0_6] 49 (0, 0)) (uK a7.out) hb); have n1_ := uZ (zC (uC HB.out ab.out) hb); clear a7; clear HB; have a7 := n0_; have HB := n1_; clear n0_ n1_; (try clear hb); (try clear hb2); (try clear hk); (try clear hi)))
             go_roundg k4
             case measure => have := HJ10.out; have := HJ21.out; have := HJ30.out; have := HK4.out; omega
             case rel => exact ⟨((x3_4 ++ (⟨#[32, 76]⟩ : ByteArray)) ++ t180), (wrap64 (ae + 1)), (by first | rfl | (simp; done) | (simp [*]; done)), (by first | rfl | (simp; done) | (simp [*]; done)), H', ⟨by have := HJ10.out; have := HJ21.out; have := HJ30.out; have := HK4.out; omega⟩, ⟨uK a7.out⟩, ⟨uC HB.out ab.out⟩⟩
            rw [if_neg c44] at H
            exact absurd H (by simp)
           rw [if_neg c42] at H
           exact absurd H (by simp)
          rw [if_neg c41] at H
          exact absurd H (by simp)
         rw [if_neg c40] at H
         have c40b0 : decide (ae < (l0_6.length : Int)) = false := decide_eq_false c40
         clear c40
         obtain rfl := Option.some.inj H
         have hcz47_0 : wr.cell? ⟨a8, 0, none⟩ = some (.int .i64 a0_0) := (zB a7.out 0).trans rfl
         have hcz47_1 : wr.cell? ⟨a8, 1, none⟩ = some (.int .i64 a0_1) := (zB a7.out 1).trans rfl
         have hcz47_2 : wr.cell? ⟨a8, 2, none⟩ = some (.int .i64 a0_2) := (zB a7.out 2).trans rfl
         have hcz47_3 : wr.cell? ⟨a8, 3, none⟩ = some (.int .i64 a0_3) := (zB a7.out 3).trans rfl
         have hcz47_4 : wr.cell? ⟨a8, 4, none⟩ = some (.int .u32 a0_4) := (zB a7.out 4).trans rfl
         have hcz47_5 : wr.cell? ⟨a8, 5, none⟩ = some (.int .i64 a0_5) := (zB a7.out 5).trans rfl
         have hcz47_6 : wr.cell? ⟨a8, 6, none⟩ = some (.slice A0_6 l0_6.length c0_6) := (zB a7.out 6).trans rfl
         have hfz47_0 := zA a7.out 0
         have hfz47_1 := zA a7.out 1
         have hfz47_2 := zA a7.out 2
         have hfz47_3 := zA a7.out 3
         have hfz47_4 := zA a7.out 4
         have hfz47_5 := zA a7.out 5
         have hfz47_6 := zA a7.out 6
         go_wp2
         go_ret
         exact ⟨by first | rfl | (simp [errW_none, errW_some] <;> rfl) | (simp [*, errW_none, errW_some] <;> rfl), by repeat (first | (with_reducible first | exact HB.out | apply below_alloc | apply pw_below_drewN | apply below_drew1 | refine below_set ?_ ab.out) | exact HB.out)⟩

end Go.Proofs.YtlhgfhmdhmgmpaaGreatDoor.PZ1
