/- relax's assembler: how far a short branch must go. -/
import Derived.Test.YtlhgfhmdhmgmpaaGreatDoorRxB
import Derived.Maps.OwnSet
import Derived.Maps.OwnOps
namespace Go.Proofs.YtlhgfhmdhmgmpaaGreatDoor
open Go.RowKit Go.Proofs.YtlhgfhmdhmgmpaaGreatDoorW.PrintWords Go.Maps

theorem bdnX (w : World) (n : Nat) : Below w.heap.size w (w.drewN n) := ⟨rfl, rfl, rfl, Nat.le_refl _, fun _ _ => rfl⟩

theorem keyed : Keyed Tryz.prog 3 := int_keyed Tryz.underlying3
theorem zeroInt (w : World) : (zeroValue 3).run Tryz.prog w = .ok (.int .i64 0) w := by kernel_rfl

/-- Block b is a map of at most n entries, that holds just what f tells. -/
def IMap (w : World) (b n : Nat) (f : Int → Option Int) : Prop :=
  ∃ D : DataW Unit, w.ownsMap Tryz.prog 3 (plainElem Tryz.prog 3) b n D ∧ ∀ k, (Lit.int .i64 k).wf = true → Maps.has D (.int .i64 k) = (f k).isSome ∧ D.atKey (.int .i64 k) (.lit (.int .i64 0)) = .lit (.int .i64 ((f k).getD 0))

theorem IMap.look {w : World} {b n : Nat} {f : Int → Option Int} (h : IMap w b n f) (k : Int) (hk : (Lit.int .i64 k).wf = true) :
    (Instr.lookup 74 (.map (some b)) (.int .i64 k) false).run Tryz.prog w = .ok (.int .i64 ((f k).getD 0)) w := by
  obtain ⟨D, ho, hD⟩ := h
  obtain ⟨c, hrun, hat, _⟩ := ho.lookup_int keyed Tryz.underlying74 Tryz.underlying3 (zeroInt w) (keyOf_int_mk Tryz.underlying3 hk)
  have e : c = (f k).getD 0 := by
    have := hat.symm.trans (hD k hk).2
    simp only [DataW.lit.injEq, Lit.int.injEq, true_and] at this
    exact this
  exact e ▸ hrun

theorem IMap.look_ok {w : World} {b n : Nat} {f : Int → Option Int} (h : IMap w b n f) (k : Int) (hk : (Lit.int .i64 k).wf = true) :
    (Instr.lookup 74 (.map (some b)) (.int .i64 k) true).run Tryz.prog w = .ok (.tuple #[.int .i64 ((f k).getD 0), .bool (f k).isSome]) w := by
  obtain ⟨D, ho, hD⟩ := h
  obtain ⟨v, ps, hrun, hv⟩ := ho.look_ok keyed Tryz.underlying74 (zeroInt w) (plainElem_int Tryz.underlying3 (by decide)) (keyOf_int_mk Tryz.underlying3 hk)
  obtain ⟨c, rfl, hc, _⟩ := plainElem_int_inv Tryz.underlying3 hv
  have e : c = (f k).getD 0 := by
    have := (congrArg Prod.fst hc).symm.trans (hD k hk).2
    simp only [DataW.lit.injEq, Lit.int.injEq, true_and] at this
    exact this
  have e2 := (hD k hk).1
  subst e
  exact e2 ▸ hrun

theorem IMap.drewN {w : World} {b n : Nat} {f : Int → Option Int} (h : IMap w b n f) (m : Nat) : IMap (w.drewN m) b n f := by
  obtain ⟨D, ⟨es, clock, hb, r⟩, hD⟩ := h
  exact ⟨D, ⟨es, clock, hb, r⟩, hD⟩

theorem IMap.below {w w' : World} {b n : Nat} {f : Int → Option Int} (h : IMap w b n f) (hb : Below w.heap.size w w') : IMap w' b n f := by
  obtain ⟨D, ho, hD⟩ := h
  have hlt := ho.lt
  obtain ⟨es, clock, hbl, r⟩ := ho
  exact ⟨D, ⟨es, clock, by rw [hb.block b hlt]; exact hbl, r⟩, hD⟩

theorem IMap.mono {w : World} {b n m : Nat} {f : Int → Option Int} (h : IMap w b n f) (hm : n ≤ m) : IMap w b m f := by
  obtain ⟨D, ho, hD⟩ := h
  exact ⟨D, ho.mono hm, hD⟩

theorem away_any (g mb pb : Nat) (w : World) (A : Option Addr) (n c c' m : Nat) (ls : List Line) (i : Nat) (l : Line) (p : Int) (f : Int → Option Int) (hi : i < n)
    (c0 : w.cell? ⟨g, 0, none⟩ = some (.slice A n c)) (c1 : w.cell? ⟨g, 1, none⟩ = some (.map (some mb))) (c3 : w.cell? ⟨g, 3, none⟩ = some (.slice (some ⟨pb, 0, none⟩) n c'))
    (hl : Lines w (.slice A n c) ls) (hli : ls[i]? = some l) (hp : w.cell? ⟨pb, i, none⟩ = some (.int .i64 p)) (hM : IMap w mb m f) (hlb : (Lit.int .i64 l.label).wf = true)
    (h0 : 0 ≤ p) (h1 : p ≤ 100000000) (h2 : 0 ≤ (f l.label).getD 0) (h3 : (f l.label).getD 0 ≤ 100000000) :
    Calls Tryz.prog 43 #[.pointer (some ⟨g, 0, none⟩), .int .i64 i] w fun e w' => e = .returned (.int .i64 ((f l.label).getD 0 - p - 1)) ∧ Below w.heap.size w w' := by
  obtain ⟨ad, l', v, rfl, hli', ⟨k0, k1, k2, k3, k4, k5, k6⟩, hv⟩ := hl.at_ i hi
  obtain rfl : l = l' := Option.some.inj (hli.symm.trans hli')
  have hlk := fun q => (hM.drewN q).look l.label hlb
  clear hli hli' hl hv k1 k2 k3 k4 k6 hM
  generalize (f l.label).getD 0 = x at hlk h2 h3 ⊢
  have hi0 : (0 : Int) ≤ (i : Int) := Int.natCast_nonneg _
  have hi1 : (i : Int) < (n : Int) := by omega
  go_enter Tryz.func43, Tryz.ntmps43
  go_wp2_with fail
  go_quiet (fail)
  go_wp2
  go_ret
  exact ⟨rfl, bdnX _ _⟩

end Go.Proofs.YtlhgfhmdhmgmpaaGreatDoor
