/- append of numbers onto a row of one's own: at a step of a region that draws its order, and at a plain list. -/
import Derived.Test.YtlhgfhmdhmgmpaaGreatDoorKu
import Derived.Deep.AppendLies
import Derived.Deep.RegionLaw
import Derived.Laws.OwnMore
namespace Go.Proofs.YtlhgfhmdhmgmpaaGreatDoor
open Go.RowKit

theorem infoOf {P : Program} {e : TypeId} {k : IntKind} {bytes : Nat} (h : (P.info? e).map (fun i => (i.zero, i.size, i.bytes)) = some (some (.int k 0), 1, bytes)) :
    ∃ i, P.info? e = some i ∧ i.zero = some (.int k 0) ∧ i.size = 1 ∧ i.bytes = bytes := by
  cases hi : P.info? e with
  | none => rw [hi] at h; cases h
  | some i =>
    rw [hi] at h
    simp only [Option.map_some, Option.some.injEq, Prod.mk.injEq] at h
    exact ⟨i, rfl, h.1, h.2.1, h.2.2⟩

section
variable {P : Program} {k : IntKind} {bytes : Nat} (t e : TypeId) (ht : P.underlying t = some (.slice e)) (hinfo : (P.info? e).map (fun i => (i.zero, i.size, i.bytes)) = some (some (.int k 0), 1, bytes)) (hby : bytes ≤ 8)
include ht hinfo hby

theorem ap_step {w : World} {ops : Array Oper} {o : Oper} {a : Act} {K : Act → World → Prop} {Q : Exit → Act → World → Prop} {E : Prop} (hgd : o.guard = none) (s x : Operand)
    (ho : o.op = .call { callee := .builtin .append, args := #[s, x], argTypes := #[t, t] })
    (B : Nat) (v : Value) (n : Nat) (xs : List Int) (hs : a.eval s = v) (hown : w.ownsRow B e 1 v n (xs.map (Value.int k)))
    (ad : Addr) (m c : Nat) (news : List Int) (hx : a.eval x = .slice (some ad) m c) (hl : news.length = m) (hnews : ∀ j u, (news.map (Value.int k))[j]? = some u → w.cell? (ad.add j) = some u)
    (hm : 0 < m) (hle : n + m ≤ 5000000000) (hB : B ≤ w.heap.size)
    (h : ∀ g cap w', w'.ownsRow B e 1 (.slice (some ⟨g, 0, none⟩) (n + m) cap) (n + m) ((xs ++ news).map (Value.int k)) → w.grownBy w' v.ownBlock → (v.ownBlock = some g ∨ g = w.heap.size) → g < w'.heap.size → K (a.put o.dst (.slice (some ⟨g, 0, none⟩) (n + m) cap)) w') :
    if Region.wanted o (yielded ops a.tmps) = true then Oper.wp P o a w K Q else E := by
  obtain ⟨i, hi, hz, hsz, hb⟩ := infoOf hinfo
  refine step_append_lies w hgd s x t ho B e i (.int k 0) 1 bytes ht hi hz hsz hb rfl (by decide) v n _ hs hown ad m c (news.map (Value.int k)) hx (by simp [hl]) hnews (ints_oneCell k news) hm (by unfold maxLen; omega) (by have := Nat.mul_le_mul hle hby; omega) hB _ rfl ?_
  intro g cap w' h1 h2 h3 h4
  rw [← List.map_append] at h1
  exact h g cap w' h1 h2 h3 h4

end

/-- The cell of a one-number row made just now. -/
theorem one_new (w : World) (k : IntKind) (x : Int) (t : TypeId) : ∀ j u, ([x].map (Value.int k))[j]? = some u → (w.alloc (.cells #[.int k x] t)).cell? ((⟨w.heap.size, 0, none⟩ : Addr).add j) = some u := cell_one_new w (.int k x) t

end Go.Proofs.YtlhgfhmdhmgmpaaGreatDoor
