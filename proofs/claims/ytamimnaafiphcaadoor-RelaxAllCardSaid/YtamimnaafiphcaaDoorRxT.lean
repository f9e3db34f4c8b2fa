/- relax's law: an answer that the document gives. -/
import Derived.Test.YtamimnaafiphcaaDoorRxS
namespace Go.Proofs.YtamimnaafiphcaaDoor
open Go.RowKit Go.Proofs.YtamimnaafiphcaaDoorW.PrintWords Go.Maps Go.Joins

theorem Lines.mk' {w : World} {A : Option Addr} {c : Nat} {ls : List Line} (hb : ls.length ≤ 9223372036854775807)
    (h : 0 < ls.length → ∃ ad, A = some ad ∧ ∀ i l, ls[i]? = some l → ∃ A' c', l.list.length ≤ c' ∧ kInt.C w A' l.list.length l.list ∧ ∀ j u, [Value.int .i64 l.op, .int .i64 l.a, .int .i64 l.b, .int .i64 l.imm, .int .u32 l.n, .int .i64 l.label, .slice A' l.list.length c'][j]? = some u → w.cell? (ad.add (i * 7 + j)) = some u) :
    Lines w (.slice A ls.length c) ls := by
  refine ⟨A, c, rfl, rfl, hb, fun hp => ?_⟩
  obtain ⟨ad, rfl, hc⟩ := h hp
  refine ⟨ad, rfl, fun i l hl => ?_⟩
  obtain ⟨A', c', hlc, hr, hcell⟩ := hc i l hl
  exact ⟨_, rfl, ⟨[_], _, rfl, rfl, [_], _, rfl, rfl, [_], _, rfl, rfl, [_], _, rfl, rfl, [_], _, rfl, rfl, [_], _, rfl, rfl, A', c', rfl, hlc, hr⟩, hcell⟩

def liveLs : List Line := [⟨0, 0, 0, 0, 0, 7, []⟩, ⟨44, 0, 0, 0, 0, 0, []⟩, ⟨40, 0, 0, 0, 0, 7, []⟩]

theorem fin_live : fin liveLs = ([false, false, false], 1) := by
  unfold fin rounds
  rw [dif_pos (by kernel_rfl)]
  rfl

theorem asm_live : asm liveLs = ⟨[738197504, 671154174], [1, 1], [0, 0, 1], 1, 0, 0⟩ := by
  unfold asm
  rw [if_neg (by simp only [show (refusedP liveLs).2 = 0 by kernel_rfl]; decide), fin_live, if_neg (by rw [show pl liveLs [false, false, false] liveLs.length = 2 by kernel_rfl]; decide)]
  kernel_rfl

theorem Lines.live {w : World} {b : Nat} {t : TypeId} {fr : Nat × Nat} (h : w.heap[b]? = some (.cells #[.int .i64 0, .int .i64 0, .int .i64 0, .int .i64 0, .int .u32 0, .int .i64 7, .slice none 0 0, .int .i64 44, .int .i64 0, .int .i64 0, .int .i64 0, .int .u32 0, .int .i64 0, .slice none 0 0, .int .i64 40, .int .i64 0, .int .i64 0, .int .i64 0, .int .u32 0, .int .i64 7, .slice none 0 0] t fr)) :
    Lines w (.slice (some ⟨b, 0, none⟩) 3 3) liveLs := by
  refine Lines.mk' (ls := liveLs) (by decide) fun _ => ⟨_, rfl, fun i l hl => ?_⟩
  have hi : i < 3 := (List.getElem?_eq_some_iff.1 hl).1
  have hadd : ∀ j, (⟨b, 0, none⟩ : Addr).add j = ⟨b, j, none⟩ := fun j => by unfold Addr.add; split <;> simp_all
  have key : ∀ (i : Nat) (l : Line), l.list = [] → (∀ j u, [Value.int .i64 l.op, .int .i64 l.a, .int .i64 l.b, .int .i64 l.imm, .int .u32 l.n, .int .i64 l.label, .slice none 0 0][j]? = some u → w.cell? ⟨b, i * 7 + j, none⟩ = some u) →
      ∃ A' c', l.list.length ≤ c' ∧ kInt.C w A' l.list.length l.list ∧ ∀ j u, [Value.int .i64 l.op, .int .i64 l.a, .int .i64 l.b, .int .i64 l.imm, .int .u32 l.n, .int .i64 l.label, .slice A' l.list.length c'][j]? = some u → w.cell? ((⟨b, 0, none⟩ : Addr).add (i * 7 + j)) = some u := by
    intro i l hn hc
    rw [hn]
    exact ⟨none, 0, Nat.le_refl _, Kd.C_nil kInt w, fun j u hu => by rw [hadd]; exact hc j u hu⟩
  have hcb := cell_of_block h
  match i, hi, hl with
  | 0, _, hl =>
    cases hl
    refine key 0 _ rfl fun j u hu => ?_
    rw [hcb]
    have hj := (List.getElem?_eq_some_iff.1 hu).1
    match j, hj, hu with
    | 0, _, hu | 1, _, hu | 2, _, hu | 3, _, hu | 4, _, hu | 5, _, hu | 6, _, hu => exact hu
  | 1, _, hl =>
    cases hl
    refine key 1 _ rfl fun j u hu => ?_
    rw [hcb]
    have hj := (List.getElem?_eq_some_iff.1 hu).1
    match j, hj, hu with
    | 0, _, hu | 1, _, hu | 2, _, hu | 3, _, hu | 4, _, hu | 5, _, hu | 6, _, hu => exact hu
  | 2, _, hl =>
    cases hl
    refine key 2 _ rfl fun j u hu => ?_
    rw [hcb]
    have hj := (List.getElem?_eq_some_iff.1 hu).1
    match j, hj, hu with
    | 0, _, hu | 1, _, hu | 2, _, hu | 3, _, hu | 4, _, hu | 5, _, hu | 6, _, hu => exact hu

theorem three_new (X : World) (n : Nat) (hn : X.heap.size = n) (a b c : Obj) : (((X.alloc a).alloc b).alloc c).heap[n]? = some a ∧ (((X.alloc a).alloc b).alloc c).heap[n + 1]? = some b ∧ (((X.alloc a).alloc b).alloc c).heap[n + 1 + 1]? = some c ∧ Below X.heap.size X (((X.alloc a).alloc b).alloc c) := by
  subst hn
  have h1 : (X.alloc a).heap[X.heap.size]? = some a := heap_alloc_new X _
  have h2 : ((X.alloc a).alloc b).heap[X.heap.size + 1]? = some b := by
    have := heap_alloc_new (X.alloc a) b
    rwa [World.size_alloc] at this
  have h3 : (((X.alloc a).alloc b).alloc c).heap[X.heap.size + 1 + 1]? = some c := by
    have := heap_alloc_new ((X.alloc a).alloc b) c
    rwa [World.size_alloc, World.size_alloc] at this
  have b1 := (Below.refl _ X).alloc (Nat.le_refl _) a
  have b2 := (Below.refl _ (X.alloc a)).alloc (Nat.le_refl _) b
  have b3 := (Below.refl _ ((X.alloc a).alloc b)).alloc (Nat.le_refl _) c
  exact ⟨below_blk (bj b2 b3) h1, below_blk b3 h2, h3, bj (bj b1 b2) b3⟩

theorem own_shape {w : World} {B e : Nat} {v : Value} {n : Nat} {xs : List Value} (o : w.ownsRow B e 1 v n xs) : ∃ A c, v = .slice A n c := by
  rcases o.2 with ⟨rfl, hn⟩ | ⟨g, cap, cur, rfl, _⟩
  · exact ⟨none, 0, by rw [hn]⟩
  · exact ⟨_, cap, rfl⟩

set_option maxRecDepth 100000 in
set_option maxHeartbeats 4000000 in
theorem live_any (w : World) (hL : Laid w) : Calls Tryd.prog 21 #[] w fun e w' => e = .returned (.bool true) ∧ Below w.heap.size w w' := by
  have HL := Lib.hid hL
  clear hL
  go_enter Tryd.func21, Tryd.ntmps21
  go_wp2_with fail
  have hb1 : Below w.heap.size w (w.alloc (.cells #[.int .i64 0, .int .i64 0, .int .i64 0, .int .i64 0, .int .u32 0, .int .i64 7, .slice none 0 0, .int .i64 44, .int .i64 0, .int .i64 0, .int .i64 0, .int .u32 0, .int .i64 0, .slice none 0 0, .int .i64 40, .int .i64 0, .int .i64 0, .int .i64 0, .int .u32 0, .int .i64 7, .slice none 0 0] 40)) := (Below.refl _ _).alloc (Nat.le_refl _) _
  have hl : Lines (w.alloc (.cells #[.int .i64 0, .int .i64 0, .int .i64 0, .int .i64 0, .int .u32 0, .int .i64 7, .slice none 0 0, .int .i64 44, .int .i64 0, .int .i64 0, .int .i64 0, .int .u32 0, .int .i64 0, .slice none 0 0, .int .i64 40, .int .i64 0, .int .i64 0, .int .i64 0, .int .u32 0, .int .i64 7, .slice none 0 0] 40)) (.slice (some ⟨w.heap.size, 0, none⟩) 3 3) liveLs := Lines.live (heap_alloc_new w _)
  generalize (w.alloc (.cells #[.int .i64 0, .int .i64 0, .int .i64 0, .int .i64 0, .int .u32 0, .int .i64 7, .slice none 0 0, .int .i64 44, .int .i64 0, .int .i64 0, .int .i64 0, .int .u32 0, .int .i64 0, .slice none 0 0, .int .i64 40, .int .i64 0, .int .i64 0, .int .i64 0, .int .u32 0, .int .i64 7, .slice none 0 0] 40)) = W1 at hb1 hl ⊢
  have A := asm_any liveLs _ W1 (HL.out.below hb1) hl (by intro l hl; simp only [liveLs, List.mem_cons, List.not_mem_nil, or_false] at hl; rcases hl with rfl | rfl | rfl <;> exact ⟨by decide, fun x hx => by cases hx⟩)
  simp only [asm_live] at A
  refine A.mono ?_
  rintro e w2 ⟨wv, kv, pv, rfl, hat, hb2⟩
  have hw2 := bj hb1 hb2
  obtain ⟨AW, cW, rfl⟩ := own_shape hat.ow
  obtain ⟨AK, cK, rfl⟩ := own_shape hat.ok
  obtain ⟨AP, cP, rfl⟩ := own_shape hat.op
  have RD := Lib.hid (show AsmRd w2 [738197504, 671154174] [1, 1] [0, 0, 1] (.slice AW 2 cW) (.slice AK 2 cK) (.slice AP 3 cP) from ⟨Nums.own hat.ow (by decide), Nums.own hat.ok (by decide), Nums.own hat.op (by decide)⟩)
  have HW2 := Lib.hid hw2
  clear A hat hb2 hl hb1 hw2
  go_wp2_with fail
  have T := three_new (w2.alloc (.cells #[.slice AW 2 cW, .slice AK 2 cK, .slice AP 3 cP, .int .i64 1] 27)) (w2.heap.size + 1) (World.size_alloc _ _) (.cells #[.int .u32 738197504, .int .u32 671154174] 38) (.cells #[.int .i64 1, .int .i64 1] 3) (.cells #[.int .i64 0, .int .i64 0, .int .i64 1] 3)
  obtain ⟨T1, T2, T3, T4⟩ := T
  have hb3 := bj ((Below.refl _ w2).alloc (Nat.le_refl _) (.cells #[.slice AW 2 cW, .slice AK 2 cK, .slice AP 3 cP, .int .i64 1] 27)) T4
  refine (same_any [738197504, 671154174] [1, 1] [0, 0, 1] [738197504, 671154174] [1, 1] [0, 0, 1] 1 1 _ _ _ _ _ _ _ (RD.out.below hb3) ⟨Nums.blk (k := .u32) [738197504, 671154174] T1 (by decide), Nums.blk (k := .i64) [1, 1] T2 (by decide), Nums.blk (k := .i64) [0, 0, 1] T3 (by decide)⟩).mono ?_
  rintro e w4 ⟨rfl, hb4⟩
  have HW4 := Lib.hid (bj (bj HW2.out hb3) hb4)
  clear T1 T2 T3 T4 hb3 hb4
  go_wp2_with fail
  go_ret
  exact ⟨rfl, HW4.out⟩

end Go.Proofs.YtamimnaafiphcaaDoor
