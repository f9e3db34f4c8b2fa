/- The lines of an assembler list as Lean data, and what is known of a slice of them. -/
import Derived.Test.YtlhgfhmdhmgmpaaGreatDoorWWords
import Derived.Test.YtlhgfhmdhmgmpaaGreatDoorKu
namespace Go.Proofs.YtlhgfhmdhmgmpaaGreatDoor
open Go.RowKit Go.Proofs.YtlhgfhmdhmgmpaaGreatDoorW.PrintWords

structure Line where
  op : Int
  a : Int
  b : Int
  imm : Int
  n : Int
  label : Int
  list : List Int

def kInt : Kd Int := Kd.int .i64
def kInts : Kd (List Int) := Kd.slice 3 kInt

def kLine : Kd Line := Kd.iso (Kd.pair kInt (Kd.pair kInt (Kd.pair kInt (Kd.pair kInt (Kd.pair (Kd.int .u32) (Kd.pair kInt kInts))))))
  (fun l => (l.op, l.a, l.b, l.imm, l.n, l.label, l.list))

/-- A slice value that reads as these lines. -/
def Lines (w : World) (v : Value) (ls : List Line) : Prop := ∃ A c, v = .slice A ls.length c ∧ kLine.C w A ls.length ls

theorem Lines.below {w w' : World} {v : Value} {ls : List Line} (h : Lines w v ls) (hb : Below w.heap.size w w') : Lines w' v ls := by
  obtain ⟨A, c, e, hr⟩ := h
  exact ⟨A, c, e, Kd.C_below hr hb⟩

/-- A slice value that reads as these numbers. -/
def Ints (w : World) (v : Value) (xs : List Int) : Prop := ∃ A c, v = .slice A xs.length c ∧ kInt.C w A xs.length xs

theorem kLine_cells {w : World} {l : Line} {cs : List Value} (h : kLine.K w l cs) :
    ∃ v, cs = [.int .i64 l.op, .int .i64 l.a, .int .i64 l.b, .int .i64 l.imm, .int .u32 l.n, .int .i64 l.label, v] ∧ Ints w v l.list := by
  obtain ⟨c0, r0, rfl, h0, c1, r1, rfl, h1, c2, r2, rfl, h2, c3, r3, rfl, h3, c4, r4, rfl, h4, c5, r5, rfl, h5, A, c, rfl, hl, hr⟩ := h
  have e0 : c0 = [Value.int .i64 l.op] := h0
  have e1 : c1 = [Value.int .i64 l.a] := h1
  have e2 : c2 = [Value.int .i64 l.b] := h2
  have e3 : c3 = [Value.int .i64 l.imm] := h3
  have e4 : c4 = [Value.int .u32 l.n] := h4
  have e5 : c5 = [Value.int .i64 l.label] := h5
  subst e0; subst e1; subst e2; subst e3; subst e4; subst e5
  exact ⟨_, rfl, A, c, rfl, hr⟩

/-- What is known of an element of seven cells, as the walk spells the addresses. -/
def LineAt (w : World) (p : Addr) (l : Line) (v : Value) : Prop :=
  w.cell? p = some (.int .i64 l.op) ∧ w.cell? ⟨p.block, p.off + 1, none⟩ = some (.int .i64 l.a) ∧ w.cell? ⟨p.block, p.off + 2, none⟩ = some (.int .i64 l.b) ∧ w.cell? ⟨p.block, p.off + 3, none⟩ = some (.int .i64 l.imm) ∧
    w.cell? ⟨p.block, p.off + 4, none⟩ = some (.int .u32 l.n) ∧ w.cell? ⟨p.block, p.off + 5, none⟩ = some (.int .i64 l.label) ∧ w.cell? ⟨p.block, p.off + 6, none⟩ = some v

theorem Lines.at_ {w : World} {A : Option Addr} {n c : Nat} {ls : List Line} (h : Lines w (.slice A n c) ls) (i : Nat) (hi : i < n) :
    ∃ ad l v, A = some ad ∧ ls[i]? = some l ∧ LineAt w (ad.add (i * 7)) l v ∧ Ints w v l.list := by
  obtain ⟨A', c', e, hr⟩ := h
  injection e with e1 e2 e3
  subst e1; subst e2
  obtain ⟨ad, rfl, hc⟩ := hr.2.2 (by omega)
  obtain ⟨cs, hs, hk, hcell⟩ := hc i (ls[i]) (List.getElem?_eq_getElem hi)
  obtain ⟨v, rfl, hv⟩ := kLine_cells hk
  have f : ∀ j, 0 < j → ∀ u, w.cell? (ad.add (i * 7 + j)) = some u → w.cell? ⟨(ad.add (i * 7)).block, (ad.add (i * 7)).off + j, none⟩ = some u := fun j hj u hu => by
    rw [← add_field ad (i * 7) j hj]; exact hu
  exact ⟨ad, ls[i], v, rfl, List.getElem?_eq_getElem hi, ⟨hcell 0 _ rfl, f 1 (by decide) _ (hcell 1 _ rfl), f 2 (by decide) _ (hcell 2 _ rfl), f 3 (by decide) _ (hcell 3 _ rfl), f 4 (by decide) _ (hcell 4 _ rfl), f 5 (by decide) _ (hcell 5 _ rfl), f 6 (by decide) _ (hcell 6 _ rfl)⟩, hv⟩

theorem Lines.len {w : World} {A : Option Addr} {n c : Nat} {ls : List Line} (h : Lines w (.slice A n c) ls) : ls.length = n := by
  obtain ⟨A', c', e, hr⟩ := h
  injection e with e1 e2 e3
  exact e2.symm

end Go.Proofs.YtlhgfhmdhmgmpaaGreatDoor
