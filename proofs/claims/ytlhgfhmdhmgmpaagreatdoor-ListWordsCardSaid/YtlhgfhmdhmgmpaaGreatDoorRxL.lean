/- relax's Assemble, walked. -/
import Derived.Test.YtlhgfhmdhmgmpaaGreatDoorRxQ
import Derived.ScopeJumps
import Derived.Laws.MakeOwn
namespace Go.Proofs.YtlhgfhmdhmgmpaaGreatDoor
open Go.RowKit Go.Proofs.YtlhgfhmdhmgmpaaGreatDoorW.PrintWords Go.Maps Go.Joins

structure AsmAt (B : Nat) (w : World) (a : Asm) (wv kv pv : Value) : Prop where
  ow : w.ownsRow B 47 1 wv a.words.length (a.words.map (Value.int .u32))
  ok : w.ownsRow B 3 1 kv a.kinds.length (a.kinds.map (Value.int .i64))
  op : w.ownsRow B 3 1 pv a.places.length (a.places.map (Value.int .i64))
  ne : ∀ k, kv.ownBlock = some k → pv.ownBlock ≠ some k

/-- What stands at each round's start. -/
structure JI (ls : List Line) (w w' : World) (A : Option Addr) (c g mb lb pb h : Nat) (long : List Bool) (places : List Int) (words : Int) (f : Int → Option Int) (r : Nat) : Prop where
  li : LI w w' w' g mb lb pb A ls.length c long places words f
  out : OI w' (h + 1) h [] [] (.slice none 0 0) r (.slice none 0 0) (.slice none 0 0)
  res : w'.heap[w.heap.size]? = some (.cells #[.slice none 0 0, .slice none 0 0, .slice none 0 0, .int .i64 0] 43 (0, 0))
  lab : ∀ x, (f x).isSome = true ↔ isLab ls x
  same : rounds ls long r = fin ls
  sz : Sized ls
  ok : (refusedP ls).2 = 0
  few : r + long.count false ≤ ls.length
  ge : g < h
  le : lb < h
  pe : pb < h
  me : mb < h
  re : w.heap.size < h
  gr : g ≠ w.heap.size
  lr : lb ≠ w.heap.size
  pr : pb ≠ w.heap.size
  mr : mb ≠ w.heap.size

theorem refused_ok (ls : List Line) (h : (refusedP ls).2 = 0) : ls.length ≤ 60000 := by
  apply Classical.byContradiction
  intro hn
  unfold refusedP at h
  rw [if_pos (by omega)] at h
  cases h

theorem made_bools (n : Nat) : madeCells #[Value.bool false] n = ((List.replicate n false).map Value.bool).toArray := by
  apply Array.toList_inj.1
  rw [toList_madeCells_one]
  simp
theorem made_ints (n : Nat) : madeCells #[Value.int .i64 0] n = ((List.replicate n (0 : Int)).map (Value.int .i64)).toArray := by
  apply Array.toList_inj.1
  rw [toList_madeCells_one]
  simp

theorem two_new (X : World) (a b : Array Value) (ta tb : TypeId) : ((X.alloc (.cells a ta)).alloc (.cells b tb)).drew.heap[X.heap.size]? = some (.cells a ta (0, 0)) ∧ ((X.alloc (.cells a ta)).alloc (.cells b tb)).drew.heap[X.heap.size + 1]? = some (.cells b tb (0, 0)) ∧ Below X.heap.size X ((X.alloc (.cells a ta)).alloc (.cells b tb)).drew := by
  have h1 : (X.alloc (.cells a ta)).heap[X.heap.size]? = some (.cells a ta (0, 0)) := heap_alloc_new X _
  have h2 : ((X.alloc (.cells a ta)).alloc (.cells b tb)).heap[X.heap.size + 1]? = some (.cells b tb (0, 0)) := by
    have := heap_alloc_new (X.alloc (.cells a ta)) (.cells b tb)
    rwa [World.size_alloc] at this
  refine ⟨?_, h2, bj ((Below.refl _ _).alloc (Nat.le_refl _) _) (((Below.refl _ _).alloc (Nat.le_refl _) _).drew)⟩
  exact below_blk (((Below.refl _ _).alloc (Nat.le_refl _) _).drew) h1

theorem IMap.setCell {w : World} {b n : Nat} {f : Int → Option Int} (h : IMap w b n f) (p : Addr) (v : Value) (hne : b ≠ p.block) : IMap (w.setCell p v) b n f := by
  obtain ⟨D, ⟨es, clock, hb, r⟩, hD⟩ := h
  exact ⟨D, ⟨es, clock, (Below.heap_setCell w p _ b hne).trans hb, r⟩, hD⟩

theorem li_start {w w2 W : World} {g mb lb pb n c : Nat} {A : Option Addr} {f : Int → Option Int} {o : Obj}
    (gbz : w2.heap[g]? = some (.cells #[.slice A n c, .map (some mb), .slice none 0 0, .slice none 0 0, .int .i64 0] 77 (0, 0))) (rbz : w2.heap[w.heap.size]? = some o) (hm : IMap w2 mb n f) (hb2 : Below w.heap.size w w2)
    (hgw : w.heap.size < g) (hmw : w.heap.size < mb) (hmg : mb < g) (hg2 : g < w2.heap.size) (hlb : w2.heap.size ≤ lb) (hpb : w2.heap.size ≤ pb) (hne : lb ≠ pb)
    (hl : W.heap[lb]? = some (.cells (madeCells #[.bool false] n) 4 (0, 0))) (hp : W.heap[pb]? = some (.cells (madeCells #[.int .i64 0] n) 3 (0, 0)))
    (hb : Below w2.heap.size ((w2.setCell ⟨g, 2, none⟩ (.slice (some ⟨lb, 0, none⟩) n n)).setCell ⟨g, 3, none⟩ (.slice (some ⟨pb, 0, none⟩) n n)) W) :
    LI w W W g mb lb pb A n c (List.replicate n false) (List.replicate n 0) 0 f ∧ W.heap[w.heap.size]? = some o := by
  have hs : ((w2.setCell ⟨g, 2, none⟩ (.slice (some ⟨lb, 0, none⟩) n n)).setCell ⟨g, 3, none⟩ (.slice (some ⟨pb, 0, none⟩) n n)).heap.size = w2.heap.size := by rw [World.size_setCell, World.size_setCell]
  have hb' : Below ((w2.setCell ⟨g, 2, none⟩ (.slice (some ⟨lb, 0, none⟩) n n)).setCell ⟨g, 3, none⟩ (.slice (some ⟨pb, 0, none⟩) n n)).heap.size ((w2.setCell ⟨g, 2, none⟩ (.slice (some ⟨lb, 0, none⟩) n n)).setCell ⟨g, 3, none⟩ (.slice (some ⟨pb, 0, none⟩) n n)) W := by rw [hs]; exact hb
  refine ⟨⟨below_blk hb' (block_setCell (block_setCell gbz _) _), by rw [← made_bools]; exact hl, by rw [← made_ints]; exact hp, IMap.below (IMap.setCell (IMap.setCell hm _ _ (by simp; omega)) _ _ (by simp; omega)) hb', ?_, by omega, by omega, hne, by omega, by omega, by omega, by omega, by simp, by simp, Nat.le_refl _, fun _ _ _ _ _ _ => rfl⟩, ?_⟩
  · exact ((hb2.setCell (Nat.le_of_lt hgw) _).setCell (Nat.le_of_lt hgw) _).trans (hb'.mono (by rw [hs]; exact hb2.size))
  · refine below_blk hb' ?_
    rw [Below.heap_setCell _ _ _ _ (by simp; omega), Below.heap_setCell _ _ _ _ (by simp; omega)]
    exact rbz

theorem wp_scope_again {P : Program} {a : Act} {w : World} {Q : Exit → Act → World → Prop} {c X : Code} (l : Nat) (J : Act → World → Prop) (μ : Act → World → Nat) (hf : findLabel c l = some (Code.skip.seq X))
    (first : (∀ a w, J a w → X.wp P (Exit.jump l J Q) a w) → c.wp P (Exit.jump l J Q) a w)
    (pass : ∀ a w, J a w → X.wp P (Exit.jump l (fun a' w' => J a' w' ∧ μ a' w' < μ a w) Q) a w) : (Code.scope c).wp P Q a w :=
  wp_scope_jumps l J μ hf (first fun a w h => wp_mono (pass a w h) fun e a' w' he => by
    cases e with
    | goto l' => exact ⟨he.1, he.2.1⟩
    | normal => exact he
    | exit id => exact he
    | ret => exact he
    | panic ch => exact he
    | outgrown => exact he) fun a w h => wp_seq (wp_skip (pass a w h))

namespace LI
theorem only {w0 w9 w w' : World} {g mb lb pb : Nat} {A : Option Addr} {n c : Nat} {long : List Bool} {places : List Int} {words : Int} {f : Int → Option Int} {B h : Nat} (H : LI w0 w9 w g mb lb pb A n c long places words f) (o : Only B h w w')
    (hB : w0.heap.size ≤ B) (hh : w0.heap.size ≤ h) (gB : g < B) (lB : lb < B) (pB : pb < B) (mB : mb < B) (gh : g ≠ h) (lh : lb ≠ h) (ph : pb ≠ h) (mh : mb ≠ h) : LI w0 w' w' g mb lb pb A n c long places words f :=
  { H with
    blkG := (o.block g gB gh).trans H.blkG
    blkL := (o.block lb lB lh).trans H.blkL
    blkP := (o.block pb pB ph).trans H.blkP
    map := by
      obtain ⟨D, ⟨es, clock, hb, r⟩, hD⟩ := H.map
      exact ⟨D, ⟨es, clock, (o.block mb mB mh).trans hb, r⟩, hD⟩
    bel := ⟨o.os.trans H.bel.os, o.tape.trans H.bel.tape, o.output.trans H.bel.output, Nat.le_trans H.bel.size o.size, fun i hi => (o.block i (Nat.lt_of_lt_of_le hi hB) (by omega)).trans (H.bel.block i hi)⟩
    s9 := Nat.le_refl _
    fr := fun _ _ _ _ _ _ => rfl }
end LI

namespace OI
theorem setR {w : World} {B h : Nat} {ws ks : List Int} {pv : Value} {r : Int} {wv kv : Value} (o : OI w B h ws ks pv r wv kv) (r' : Int) : OI (w.setCell ⟨h, 3, none⟩ (.int .i64 r')) B h ws ks pv r' wv kv :=
  { blk := block_setCell o.blk _, ow := own_set o.ow o.hB _ _, ok := own_set o.ok o.hB _ _, hB := o.hB }
theorem setP {w : World} {B h : Nat} {ws ks : List Int} {pv : Value} {r : Int} {wv kv : Value} (o : OI w B h ws ks pv r wv kv) (pv' : Value) : OI (w.setCell ⟨h, 2, none⟩ pv') B h ws ks pv' r wv kv :=
  { blk := block_setCell o.blk _, ow := own_set o.ow o.hB _ _, ok := own_set o.ok o.hB _ _, hB := o.hB }
theorem nil {w w' : World} {B h : Nat} {pv : Value} {r : Int} (o : OI w B h [] [] pv r (.slice none 0 0) (.slice none 0 0)) (hb : w'.heap[h]? = w.heap[h]?) : OI w' B h [] [] pv r (.slice none 0 0) (.slice none 0 0) :=
  { blk := hb.trans o.blk, ow := World.ownsRow_nil _ _ _ _, ok := World.ownsRow_nil _ _ _ _, hB := o.hB }
end OI

theorem arr_ofFn (n : Nat) (a : Array Value) (h : a.size = n) : a = (List.ofFn fun i : Fin n => a.getD i undef).toArray := by
  apply Array.ext
  · simp [h]
  · intro i h1 h2
    simp [Array.getD, h1]

set_option maxRecDepth 100000 in
theorem arr104 (a : Array Value) (h : a.size = 104) : ∃ u : Nat → Value, a = #[u 0, u 1, u 2, u 3, u 4, u 5, u 6, u 7, u 8, u 9, u 10, u 11, u 12, u 13, u 14, u 15, u 16, u 17, u 18, u 19, u 20, u 21, u 22, u 23, u 24, u 25, u 26, u 27, u 28, u 29, u 30, u 31, u 32, u 33, u 34, u 35, u 36, u 37, u 38, u 39, u 40, u 41, u 42, u 43, u 44, u 45, u 46, u 47, u 48, u 49, u 50, u 51, u 52, u 53, u 54, u 55, u 56, u 57, u 58, u 59, u 60, u 61, u 62, u 63, u 64, u 65, u 66, u 67, u 68, u 69, u 70, u 71, u 72, u 73, u 74, u 75, u 76, u 77, u 78, u 79, u 80, u 81, u 82, u 83, u 84, u 85, u 86, u 87, u 88, u 89, u 90, u 91, u 92, u 93, u 94, u 95, u 96, u 97, u 98, u 99, u 100, u 101, u 102, u 103] := by
  refine ⟨fun i => a.getD i undef, ?_⟩
  exact arr_ofFn 104 a h

theorem own_weak {w : World} {b b' e s n : Nat} {v : Value} {xs : List Value} (o : w.ownsRow b e s v n xs) (h : b' ≤ b) : w.ownsRow b' e s v n xs := by
  refine ⟨o.1, ?_⟩
  rcases o.2 with h1 | ⟨g, cap, cur, h1, h2, h3⟩
  · exact .inl h1
  · exact .inr ⟨g, cap, cur, h1, Nat.le_trans h h2, h3⟩

theorem own_block {w : World} {b pb : Nat} {e : TypeId} {k : IntKind} (xs : List Int) (hb : b ≤ pb) (hh : w.heap[pb]? = some (.cells (xs.map (Value.int k)).toArray e (0, 0))) (hl : xs.length ≤ 1000000) :
    w.ownsRow b e 1 (.slice (some ⟨pb, 0, none⟩) xs.length xs.length) xs.length (xs.map (Value.int k)) :=
  ⟨by simp, .inr ⟨pb, xs.length, _, rfl, hb, hh, Nat.le_refl _, by unfold maxLen; omega, by simp, by rw [List.toList_toArray]; exact List.take_of_length_le (by simp)⟩⟩

theorem asm_at {w wr : World} {h pb g mb lb c c' : Nat} {A : Option Addr} {ls : List Line} {long : List Bool} {r : Int} {words : Int} {f : Int → Option Int} {wv kv : Value} {pls ws ks : List Int} {aa : Asm} {u0 u1 u2 u3 : Value}
    (o : OI wr (h + 1) h ws ks (.slice (some ⟨pb, 0, none⟩) ls.length c') r wv kv) (hl : LI w wr wr g mb lb pb A ls.length c long pls words f) (hrh : w.heap.size < h) (hph : pb < h) (hpr : pb ≠ w.heap.size) (hn : ls.length ≤ 60000)
    (e1 : aa.words = ws) (e2 : aa.kinds = ks) (e3 : aa.places = pls) :
    AsmAt w.heap.size ((((wr.setCell ⟨w.heap.size, 0, none⟩ u0).setCell ⟨w.heap.size, 1, none⟩ u1).setCell ⟨w.heap.size, 2, none⟩ u2).setCell ⟨w.heap.size, 3, none⟩ u3) aa wv kv (.slice (some ⟨pb, 0, none⟩) ls.length ls.length) := by
  have hB : w.heap.size < h + 1 := by omega
  subst e1; subst e2; subst e3
  refine ⟨own_weak (OI.own_set (OI.own_set (OI.own_set (OI.own_set o.ow hB _ _) hB _ _) hB _ _) hB _ _) (by omega), own_weak (OI.own_set (OI.own_set (OI.own_set (OI.own_set o.ok hB _ _) hB _ _) hB _ _) hB _ _) (by omega), ?_, fun k hk e => ?_⟩
  · have hnp := hl.np
    rw [← hnp]
    refine own_block aa.places hl.p0 ?_ (by omega)
    rw [Below.heap_setCell _ _ _ _ (by simpa using hpr), Below.heap_setCell _ _ _ _ (by simpa using hpr), Below.heap_setCell _ _ _ _ (by simpa using hpr), Below.heap_setCell _ _ _ _ (by simpa using hpr)]
    exact hl.blkP
  · have hbk : h + 1 ≤ k := own_base o.ok k hk
    have hpk : pb = k := by simpa [Value.ownBlock] using e
    omega

theorem IMap.made (w : World) : IMap (w.alloc (.map #[] 0)) w.heap.size 0 (fun _ => none) := ⟨.map [], World.ownsMap_made w _ _ _, fun _ _ => ⟨rfl, rfl⟩⟩

def cnt (w : World) (b : Nat) : Nat := match w.heap[b]? with | some (.cells cs _ _) => (cs.toList.filter fun v => match v with | .bool x => !x | _ => false).length | _ => 0
def muA (a : Act) (w : World) : Nat := match a.tmps.getD 5 undef with
  | .pointer (some p) => match w.cell? ⟨p.block, 2, none⟩ with | some (.slice (some q) _ _) => cnt w q.block | _ => 0
  | _ => 0

theorem muA_of {a : Act} {w : World} {g lb n c : Nat} (h5 : a.tmps.getD 5 undef = .pointer (some ⟨g, 0, none⟩)) (hc : w.cell? ⟨g, 2, none⟩ = some (.slice (some ⟨lb, 0, none⟩) n c)) : muA a w = cnt w lb := by
  unfold muA
  rw [h5]
  simp only [hc]

theorem cnt_of {w : World} {b : Nat} {long : List Bool} {t : TypeId} {fr : Nat × Nat} (h : w.heap[b]? = some (.cells (long.map Value.bool).toArray t fr)) : cnt w b = long.count false := by
  unfold cnt
  rw [h]
  clear h
  show ((long.map Value.bool).filter _).length = _
  induction long with
  | nil => rfl
  | cons x long ih => cases x <;> simp [ih]

set_option maxRecDepth 100000 in
set_option maxHeartbeats 4000000 in
theorem asm_any (ls : List Line) (v : Value) (w : World) (hL : Laid w) (hl : Lines w v ls) (hwf : ∀ l ∈ ls, (Lit.int .i64 l.label).wf = true ∧ ∀ x ∈ l.list, (Lit.int .i64 x).wf = true) :
    Calls Tryz.prog 19 #[v] w fun e w' => ∃ wv kv pv, e = .returned (.tuple #[.agg #[wv, kv, pv, .int .i64 (asm ls).rounds], .int .i64 (asm ls).line, .int .i64 (asm ls).err]) ∧
      AsmAt w.heap.size w' (asm ls) wv kv pv ∧ Below w.heap.size w w' := by
  obtain ⟨A, c, rfl, hr⟩ := hl
  have hl : Lines w (.slice A ls.length c) ls := ⟨A, c, rfl, hr⟩
  clear hr
  have HLn := Lib.hid hl
  have HL := Lib.hid hL
  have HWF := Lib.hid hwf
  clear hl hL hwf
  go_enter Tryz.func19, Tryz.ntmps19
  go_wp2_with fail
  refine wp_scope_again 0 (fun a' w' => ∃ (g mb lb pb h : Nat) (long : List Bool) (places : List Int) (words : Int) (f : Int → Option Int) (r : Nat), a'.tmps.size = 104 ∧ a'.defers = [] ∧ a'.tmps.getD 0 undef = .slice A ls.length c ∧ a'.tmps.getD 2 undef = .pointer (some ⟨w.heap.size, 0, none⟩) ∧ a'.tmps.getD 5 undef = .pointer (some ⟨g, 0, none⟩) ∧ a'.tmps.getD 8 undef = .pointer (some ⟨h, 0, none⟩) ∧ Hid (JI ls w w' A c g mb lb pb h long places words f r)) muA rfl ?first ?pass
  case pass =>
    rintro ⟨tm, df⟩ w1 ⟨g, mb, lb, pb, h, long, places, words, f, r, hts, rfl, e0, e2, e5, e8, HJ⟩
    obtain ⟨u, rfl⟩ := arr104 tm hts
    clear hts
    replace e0 : u 0 = _ := e0
    replace e2 : u 2 = _ := e2
    replace e5 : u 5 = _ := e5
    replace e8 : u 8 = _ := e8
    simp only [e0, e2, e5, e8]
    have hsmall : ls.length ≤ 60000 := HJ.out.sz.small
    have hr3 := cell_of_block HJ.out.out.blk 3
    have hz3 := unfrozen_of_block HJ.out.out.blk 3
    have hfew := HJ.out.few
    have hwr : IntKind.i64.wrap ((r : Int) + 1) = (r : Int) + 1 := IntWalk.i64_in _ (by omega)
    go_wp2_with fail
    have hmem := fun l (hl : l ∈ ls) (h0 : l.op = 0) => (HJ.out.lab l.label).2 ⟨l, hl, h0, rfl⟩
    have hJ := HJ.out
    have hbh : w.heap.size ≤ h := Nat.le_of_lt hJ.re
    have hsz1 : h + 1 ≤ w1.heap.size := (Array.getElem?_eq_some_iff.1 hJ.out.blk).1
    have HLI1 := Lib.hid (hJ.li.only (B := h + 1) (h := h) ((Only.refl (h + 1) h w1).set 3 (.int .i64 ((r : Int) + 1))) (by omega) hbh (by have := hJ.ge; omega) (by have := hJ.le; omega) (by have := hJ.pe; omega) (by have := hJ.me; omega) (Nat.ne_of_lt hJ.ge) (Nat.ne_of_lt hJ.le) (Nat.ne_of_lt hJ.pe) (Nat.ne_of_lt hJ.me))
    have HO1 := Lib.hid (hJ.out.setR ((r : Int) + 1))
    have hrb := (Below.heap_setCell w1 ⟨h, 3, none⟩ (.int .i64 ((r : Int) + 1)) w.heap.size (Nat.ne_of_lt hJ.re)).trans hJ.res
    have hsz2 : h + 1 ≤ (w1.setCell ⟨h, 3, none⟩ (.int .i64 ((r : Int) + 1))).heap.size := by rw [World.size_setCell]; exact hsz1
    generalize (w1.setCell ⟨h, 3, none⟩ (.int .i64 ((r : Int) + 1))) = W1 at HLI1 HO1 hrb hsz2 ⊢
    refine (laid_any w W1 W1 g mb lb pb A ls.length c ls long places words f HLI1.out HLn.out hJ.sz hmem).mono ?_
    rintro e w2 ⟨rfl, hli2⟩
    rw [mp_fl ls long f (fun x hx => (hJ.lab x).1 hx)] at hli2
    have hgh := hJ.ge
    have hlh := hJ.le
    have hph := hJ.pe
    have hmh := hJ.me
    have hrh := hJ.re
    have HO2 := Lib.hid (HO1.out.nil (hli2.fr h (by omega) (by omega) (by omega) (by omega) (by omega)))
    have HR2 := Lib.hid ((hli2.fr w.heap.size (by omega) (Ne.symm hJ.gr) (Ne.symm hJ.lr) (Ne.symm hJ.pr) (Ne.symm hJ.mr)).trans hrb)
    have HLI2 := Lib.hid hli2.rebase
    have hsz3 := hli2.s9
    have hlen := hJ.li.nl
    have hmu : muA { tmps := #[], defers := [] } w1 = 0 := rfl
    have HSAME := Lib.hid hJ.same
    have HSZ := Lib.hid hJ.sz
    clear hmem hJ HLI1 HO1 hrb hli2 hr3 hz3 hwr hmu
    go_wp2_with fail
    go_loopw [9, 48] (fun s9 s wr => ∃ k : Nat, k ≤ ls.length ∧ s = .int .i64 k ∧ s9 = .bool (grK ls long k) ∧ Hid (LI w w2 wr g mb lb pb A ls.length c (stK ls long k) ((List.range ls.length).map (pl ls long)) (pl ls long ls.length) (fl ls long))) (fun _ s _ => ls.length - (intOf s).toNat)
    case atStart => exact ⟨0, Nat.zero_le _, rfl, rfl, by rw [stK_zero]; exact HLI2⟩
    case round =>
      obtain ⟨k, hk, rfl, rfl, hX⟩ := hrel
      by_cases hlt : k < ls.length
      · obtain ⟨ad, l, v, hA, hli, hat, hv⟩ := (HLn.out.below hX.out.bel).at_ k hlt
        obtain ⟨AL, cL, rfl, hr⟩ := hv
        clear hr
        obtain ⟨k0, k1, k2, k3, k4, k5, k6⟩ := hat
        have hget : ls.getD k default = l := by rw [List.getD_eq_getElem?_getD, hli]; rfl
        have HG := Lib.hid hget
        have HI := Lib.hid hli
        have hlab := HSZ.out.labels l (List.mem_of_getElem? hli)
        have hnd : need ls long k = (brOp l.op && !near (at_ ls long l.label - pl ls long k - 1)) := by unfold need; rw [hget]
        have HND := Lib.hid hnd
        have hsk := stK_get ls long k (by omega)
        have HSK := Lib.hid hsk
        clear hget hli hnd hsk
        subst hA
        go_wp2_with fail
        have hbx : Below wr.heap.size wr (wr.alloc (.cells #[.int .i64 l.op, .int .i64 l.a, .int .i64 l.b, .int .i64 l.imm, .int .u32 l.n, .int .i64 l.label, .slice AL l.list.length cL] 49)) := (Below.refl _ _).alloc (Nat.le_refl _) _
        have b0 : (wr.alloc (.cells #[.int .i64 l.op, .int .i64 l.a, .int .i64 l.b, .int .i64 l.imm, .int .u32 l.n, .int .i64 l.label, .slice AL l.list.length cL] 49)).cell? ⟨wr.heap.size, 0, none⟩ = some (.int .i64 l.op) := kn 0 rfl
        have hX1 := Lib.hid (hX.out.below hbx)
        have HL1 := Lib.hid (HLn.out.below hX1.out.bel)
        clear k0 k1 k2 k3 k4 k5 k6 hX
        generalize (wr.alloc (.cells #[.int .i64 l.op, .int .i64 l.a, .int .i64 l.b, .int .i64 l.imm, .int .u32 l.n, .int .i64 l.label, .slice AL l.list.length cL] 49)) = W3 at hX1 b0 hbx HL1 ⊢
        refine (branch_any _ _).mono ?_
        rintro e w' ⟨rfl, rfl⟩
        have q2 := hX1.out.c2
        have qL := hX1.out.cL k hlt
        rw [HSK.out] at qL
        have hi0 : (0 : Int) ≤ (k : Int) := Int.natCast_nonneg _
        have hi1 : (k : Int) < (ls.length : Int) := by omega
        by_cases hbr : brOp l.op = true
        · cases hlg : long.getD k false with
          | true =>
            have HG1 := Lib.hid (show grK ls long k = grK ls long (k + 1) by rw [grK_succ, hlg]; simp)
            have HS1 := Lib.hid (show stK ls long (k + 1) = stK ls long k from (stK_no ls long k (by omega) (by rw [hlg]; rfl)).symm)
            rw [hlg] at qL
            clear HG HND HSK hlg
            go_wp2_with fail
            exact ⟨⟨k + 1, by omega, by go_num, by rw [← HG1.out], Lib.hid (by rw [HS1.out]; exact hX1.out)⟩, by simp [intOf]; omega⟩
          | false =>
            have HP := Lib.hid (pl_range ls long HSZ.out k)
            have HA := Lib.hid (at_range ls long HSZ.out l.label)
            have PLK : ((List.range ls.length).map (pl ls long)).getD k 0 = pl ls long k := by simp [List.getD, hlt]
            have AW := Lib.hid (away_any g mb pb W3 (some ad) ls.length c ls.length ls.length ls k l (pl ls long k) (fl ls long) hlt hX1.out.c0 hX1.out.c1 hX1.out.c3 HL1.out HI.out (by rw [← PLK]; exact hX1.out.cP k hlt) hX1.out.map hlab HP.out.1 (by have := HP.out.2; omega) HA.out.1 HA.out.2)
            have hat2 : (fl ls long l.label).getD 0 = at_ ls long l.label := rfl
            rw [hat2] at AW
            clear PLK hat2 HP HA
            generalize hx : at_ ls long l.label - pl ls long k - 1 = x at AW HND
            rw [hlg] at qL
            go_wp2_with fail
            refine AW.out.mono ?_
            rintro e w4 ⟨rfl, hb4⟩
            have HX4 := Lib.hid (hX1.out.below hb4)
            clear AW q2 qL b0 hbx hX1
            by_cases hn : near x = true
            · have hr : -128 ≤ x ∧ x ≤ 127 := by unfold near within at hn; simpa using hn
              have d1 : decide (x < -128) = false := by simpa using hr.1
              have d2 : decide (127 < x) = false := by simpa using hr.2
              have HG1 := Lib.hid (show grK ls long k = grK ls long (k + 1) by rw [grK_succ, HND.out, hn]; simp)
              have HS1 := Lib.hid (show stK ls long (k + 1) = stK ls long k from (stK_no ls long k (by omega) (by rw [HND.out, hn]; simp)).symm)
              clear hn hr hx HND
              go_wp2_with fail
              exact ⟨⟨k + 1, by omega, by go_num, by rw [← HG1.out], Lib.hid (by rw [HS1.out]; exact HX4.out)⟩, by simp [intOf]; omega⟩
            · replace hn : near x = false := by simpa using hn
              have hy : need ls long k = true := by rw [HND.out, hbr, hn]; rfl
              have HG1 := Lib.hid (show grK ls long (k + 1) = true by rw [grK_succ, hy, hlg]; simp)
              have HS1 := Lib.hid (show (stK ls long k).set k true = stK ls long (k + 1) from stK_yes ls long k (by omega) hy)
              have hX5 := Lib.hid (HX4.out.setLong k true)
              rw [HS1.out] at hX5
              have q2 := HX4.out.c2
              have qL := HX4.out.cL k hlt
              have zL := HX4.out.fL k
              rw [HSK.out, hlg] at qL
              have hr : x < -128 ∨ (decide (x < -128) = false ∧ 127 < x) := by
                unfold near within at hn
                simp only [Bool.and_eq_false_iff, decide_eq_false_iff_not] at hn
                rcases Int.lt_or_le x (-128) with h | h
                · exact .inl h
                · exact .inr ⟨by simpa using h, by omega⟩
              clear hx HND hn hy HG HSK hlg
              rcases hr with hr | ⟨d1, hr⟩
              · go_wp2_with fail
                exact ⟨⟨k + 1, by omega, by go_num, by rw [HG1.out], hX5⟩, by simp [intOf]; omega⟩
              · go_wp2_with fail
                exact ⟨⟨k + 1, by omega, by go_num, by rw [HG1.out], hX5⟩, by simp [intOf]; omega⟩
        · replace hbr : brOp l.op = false := by simpa using hbr
          have HG1 := Lib.hid (show grK ls long k = grK ls long (k + 1) by rw [grK_succ, HND.out, hbr]; simp)
          have HS1 := Lib.hid (show stK ls long (k + 1) = stK ls long k from (stK_no ls long k (by omega) (by rw [HND.out, hbr]; simp)).symm)
          clear HG HND HSK
          go_wp2_with fail
          exact ⟨⟨k + 1, by omega, by go_num, by rw [← HG1.out], Lib.hid (by rw [HS1.out]; exact hX1.out)⟩, by simp [intOf]; omega⟩
      · have hkn : k = ls.length := by omega
        subst hkn
        have hX2 := hX.out
        rw [stK_all ls long ls.length (by omega)] at hX2
        have hh9 : h < w2.heap.size := by omega
        have HO3 := Lib.hid (HO2.out.nil (hX2.fr h hh9 (by omega) (by omega) (by omega) (by omega)))
        have HR3 := Lib.hid ((hX2.fr w.heap.size (by omega) (Ne.symm HJ.out.gr) (Ne.symm HJ.out.lr) (Ne.symm HJ.out.pr) (Ne.symm HJ.out.mr)).trans HR2.out)
        have HX2 := Lib.hid hX2
        clear hX2 hX HO2 HR2 HLI2
        by_cases hst : step ls long = long
        · have hgr : grK ls long ls.length = false := (grK_step ls long ls.length (by omega)).2 hst
          rw [hst] at HX2
          have q4 := HX2.out.c4
          simp only [hgr]
          have HFIN := Lib.hid (show fin ls = (long, r + 1) by rw [← HSAME.out]; unfold rounds; rw [dif_pos hst])
          by_cases hbig : 65536 < pl ls long ls.length
          · have HASM := Lib.hid (show asm ls = ⟨[], [], [], 0, 0, 174⟩ by unfold asm; rw [if_neg (by simp [HJ.out.ok]), HFIN.out, if_pos hbig])
            have hrz := HR3.out
            have hb3 := HX2.out.bel
            have r0 := cell_of_block hrz 0
            have r1 := cell_of_block hrz 1
            have r2 := cell_of_block hrz 2
            have r3 := cell_of_block hrz 3
            have y0 := unfrozen_of_block hrz 0
            have y1 := unfrozen_of_block hrz 1
            have y2 := unfrozen_of_block hrz 2
            have y3 := unfrozen_of_block hrz 3
            clear hrz
            go_wp2_with fail
            simp only [Exit.jump]
            refine bodyPost_ret (v := .tuple #[.agg #[.slice none 0 0, .slice none 0 0, .slice none 0 0, .int .i64 0], .int .i64 0, .int .i64 174]) (by simp [results, Tryz.results19, go_sem, r0, r1, r2, r3]) rfl ?_
            refine ⟨.slice none 0 0, .slice none 0 0, .slice none 0 0, by rw [HASM.out]; rfl, by rw [HASM.out]; exact ⟨World.ownsRow_nil _ _ _ _, World.ownsRow_nil _ _ _ _, World.ownsRow_nil _ _ _ _, fun k hk => by cases hk⟩, ?_⟩
            exact (((hb3.setCell (Nat.le_refl _) _).setCell (Nat.le_refl _) _).setCell (Nat.le_refl _) _).setCell (Nat.le_refl _) _
          · have HASM := Lib.hid (show asm ls = ⟨wordsOf ls long ls.length, kindsOf ls long ls.length, (List.range ls.length).map (pl ls long), r + 1, 0, 0⟩ by unfold asm; rw [if_neg (by simp [HJ.out.ok]), HFIN.out, if_neg hbig])
            replace hbig : decide (65536 < pl ls long ls.length) = false := by simpa using hbig
            have q3 := HX2.out.c3
            have o2 := HO3.out.blk
            have d2 := cell_of_block o2 2
            have z2 := unfrozen_of_block o2 2
            clear o2
            go_wp2_with fail
            have HO4 := Lib.hid (HO3.out.setP (.slice (some ⟨pb, 0, none⟩) ls.length ls.length))
            have HN4 := Lib.hid ((Only.refl (h + 1) h wr).set 2 (.slice (some ⟨pb, 0, none⟩) ls.length ls.length))
            have hszr : h + 1 ≤ wr.heap.size := Nat.le_trans (by omega) HX2.out.s9
            clear q3 q4 d2 z2 hgr hbig
            generalize (wr.setCell ⟨h, 2, none⟩ (.slice (some ⟨pb, 0, none⟩) ls.length ls.length)) = W4 at HO4 HN4 ⊢
            go_loopw [96] (fun s w5 => ∃ k : Nat, k ≤ ls.length ∧ s = .int .i64 k ∧ Hid (∃ wv kv, OI w5 (h + 1) h (wordsOf ls long k) (kindsOf ls long k) (.slice (some ⟨pb, 0, none⟩) ls.length ls.length) ((r : Int) + 1) wv kv) ∧ Hid (Only (h + 1) h wr w5)) (fun s _ => ls.length - (intOf s).toNat)
            case atStart => exact ⟨0, Nat.zero_le _, rfl, Lib.hid ⟨_, _, HO4.out⟩, HN4⟩
            case round =>
              obtain ⟨k, hk, rfl, hX, hN⟩ := hrel
              obtain ⟨wv, kv, ho⟩ := hX.out
              have hL5 := HX2.out.only hN.out (by omega) (by omega) (by omega) (by omega) (by omega) (by omega) (Nat.ne_of_lt hgh) (Nat.ne_of_lt hlh) (Nat.ne_of_lt hph) (Nat.ne_of_lt hmh)
              clear HO4 HN4 hX
              by_cases hlt : k < ls.length
              · have hget : ls[k]? = some (ls.getD k default) := by rw [List.getD_eq_getElem?_getD, List.getElem?_eq_getElem hlt]; rfl
                have hmm : ls.getD k default ∈ ls := List.mem_of_getElem? hget
                have hpk : ((List.range ls.length).map (pl ls long)).getD k 0 = pl ls long k := by simp [List.getD, hlt]
                have hpr := pl_range ls long HSZ.out k
                have hwl := wordsOf_len ls long HSZ.out k
                have hkl := kindsOf_len ls long HSZ.out k
                have LA := Lib.hid (line_anyX w _ _ g mb lb pb A ls.length c ls long _ _ (fl ls long) (h + 1) h _ _ _ _ wv kv k (ls.getD k default) hL5 HLn.out HSZ.out hlt hget (HL.out.below hL5.bel) ho (Nat.le_trans hszr hN.out.size) (by omega) (by omega) (by rw [hpk]; omega) (by rw [hpk]; omega) (fun x => at_range ls long HSZ.out x) (HWF.out _ hmm).2 (by have := HL.out.1; omega) (by have := HL.out.1; omega))
                rw [hpk, ← wordsOf_succ, ← kindsOf_succ] at LA
                clear hL5 ho hget hmm hpk hpr hwl hkl
                go_wp2_with fail
                refine LA.out.mono ?_
                rintro e w6 ⟨rfl, o6, n6⟩
                have HO6 := Lib.hid o6
                have HN6 := Lib.hid (hN.out.trans n6)
                clear o6 n6 LA hN
                go_wp2_with fail
                exact ⟨⟨k + 1, by omega, by go_num, HO6, HN6⟩, by simp [intOf]; omega⟩
              · have hkn : k = ls.length := by omega
                subst hkn
                have hrz := (hN.out.block w.heap.size (by omega) (by omega)).trans HR3.out
                obtain ⟨AW, cW, rfl⟩ := ho.wShape
                obtain ⟨AK, cK, rfl⟩ := ho.kShape
                have hblk := ho.blk
                have r0 := cell_of_block hrz 0
                have r1 := cell_of_block hrz 1
                have r2 := cell_of_block hrz 2
                have r3 := cell_of_block hrz 3
                have y0 := unfrozen_of_block hrz 0
                have y1 := unfrozen_of_block hrz 1
                have y2 := unfrozen_of_block hrz 2
                have y3 := unfrozen_of_block hrz 3
                have d0 := cell_of_block hblk 0
                have d1 := cell_of_block hblk 1
                have d2 := cell_of_block hblk 2
                have d3 := cell_of_block hblk 3
                have HFI := Lib.hid ho
                have HLI := Lib.hid hL5
                have hb6 := Lib.hid hL5.bel
                have hpr := HJ.out.pr
                clear hrz hblk ho hL5
                generalize (wordsOf ls long ls.length) = ws at *
                generalize (kindsOf ls long ls.length) = ks at *
                go_wp2_with fail
                simp only [Exit.jump]
                refine bodyPost_ret (v := .tuple #[.agg #[.slice AW ws.length cW, .slice AK ks.length cK, .slice (some ⟨pb, 0, none⟩) ls.length ls.length, .int .i64 ((r : Int) + 1)], .int .i64 0, .int .i64 0]) (by simp [results, Tryz.results19, go_sem, r0, r1, r2, r3]) rfl ?_
                refine ⟨.slice AW ws.length cW, .slice AK ks.length cK, .slice (some ⟨pb, 0, none⟩) ls.length ls.length, by rw [HASM.out]; simp, ?_, ?_⟩
                · rw [HASM.out]
                  exact asm_at HFI.out HLI.out hrh hph hpr hsmall rfl rfl rfl
                · exact (((hb6.out.setCell (Nat.le_refl _) _).setCell (Nat.le_refl _) _).setCell (Nat.le_refl _) _).setCell (Nat.le_refl _) _
        · have hgr : grK ls long ls.length = true := by
            cases hg : grK ls long ls.length with
            | true => rfl
            | false => exact absurd ((grK_step ls long ls.length (by omega)).1 hg) hst
          have hcl := step_lt ls long hst
          have hcl2 : (step ls long).count false < cnt w1 lb := by rw [cnt_of HJ.out.li.blkL]; exact hcl
          have HJ2 : Hid (JI ls w wr A c g mb lb pb h (step ls long) ((List.range ls.length).map (pl ls long)) (pl ls long ls.length) (fl ls long) (r + 1)) := Lib.hid
            ⟨HX2.out.rebase, by have := HO3.out; simpa using this, HR3.out, fun x => fl_lab ls long x, by rw [← HSAME.out]; conv => rhs; unfold rounds; rw [dif_neg hst], HSZ.out, HJ.out.ok, by omega, HJ.out.ge, HJ.out.le, HJ.out.pe, HJ.out.me, HJ.out.re, HJ.out.gr, HJ.out.lr, HJ.out.pr, HJ.out.mr⟩
          simp only [hgr]
          go_wp2_with fail
          go_step3
          refine ⟨rfl, ⟨g, mb, lb, pb, h, _, _, _, _, r + 1, rfl, rfl, rfl, rfl, rfl, rfl, HJ2⟩, ?_⟩
          rw [muA_of (g := g) (lb := lb) rfl HX2.out.c2, muA_of (g := g) (lb := lb) rfl HJ.out.li.c2, cnt_of HX2.out.blkL]
          exact hcl2
  case first =>
    --DEV<
    intro again
    have rbz : (w.alloc (.cells #[.slice none 0 0, .slice none 0 0, .slice none 0 0, .int .i64 0] 43)).heap[w.heap.size]? = some (.cells #[.slice none 0 0, .slice none 0 0, .slice none 0 0, .int .i64 0] 43 (0, 0)) := heap_alloc_new _ _
    have hmm := @run_makeMap Tryz.prog
    go_wp2_with fail
    clear hmm
    have hAs : (w.alloc (.cells #[.slice none 0 0, .slice none 0 0, .slice none 0 0, .int .i64 0] 43)).heap.size = w.heap.size + 1 := World.size_alloc _ _
    have hbA : Below w.heap.size w (w.alloc (.cells #[.slice none 0 0, .slice none 0 0, .slice none 0 0, .int .i64 0] 43)) := (Below.refl _ _).alloc (Nat.le_refl _) _
    generalize (w.alloc (.cells #[.slice none 0 0, .slice none 0 0, .slice none 0 0, .int .i64 0] 43)) = WA at rbz hAs hbA ⊢
    have hmap := IMap.made WA
    have hbB : Below WA.heap.size WA (WA.alloc (.map #[] 0)) := (Below.refl _ _).alloc (Nat.le_refl _) _
    have hBs : (WA.alloc (.map #[] 0)).heap.size = w.heap.size + 1 + 1 := by rw [World.size_alloc, hAs]
    rw [hAs] at hmap
    generalize (WA.alloc (.map #[] 0)) = WB at hmap hbB hBs ⊢
    have hbC : Below WB.heap.size WB (WB.alloc (.cells #[.slice A ls.length c, .map (some (w.heap.size + 1)), .slice none 0 0, .slice none 0 0, .int .i64 0] 77)) := (Below.refl _ _).alloc (Nat.le_refl _) _
    have hCs : (WB.alloc (.cells #[.slice A ls.length c, .map (some (w.heap.size + 1)), .slice none 0 0, .slice none 0 0, .int .i64 0] 77)).heap.size = w.heap.size + 1 + 1 + 1 := by rw [World.size_alloc, hBs]
    have gbz : (WB.alloc (.cells #[.slice A ls.length c, .map (some (w.heap.size + 1)), .slice none 0 0, .slice none 0 0, .int .i64 0] 77)).heap[w.heap.size + 1 + 1]? = some (.cells #[.slice A ls.length c, .map (some (w.heap.size + 1)), .slice none 0 0, .slice none 0 0, .int .i64 0] 77 (0, 0)) := by rw [← hBs]; exact heap_alloc_new _ _
    replace hmap := hmap.below hbC
    generalize (WB.alloc (.cells #[.slice A ls.length c, .map (some (w.heap.size + 1)), .slice none 0 0, .slice none 0 0, .int .i64 0] 77)) = WC at hmap hbC hCs gbz ⊢
    have hwC : Below w.heap.size w WC := bj (bj hbA hbB) hbC
    replace rbz := below_blk hbC (below_blk hbB rbz)
    have hR : RefI WC WC (w.heap.size + 1 + 1) (w.heap.size + 1) A ls.length c ls 0 [] := ⟨cell_of_block gbz 0, cell_of_block gbz 1, HLn.out.below hwC, hmap.congr (fun x => by simp [seenMap]), HL.out.below hwC, ⟨rfl, rfl, rfl, Nat.le_refl _, fun _ _ _ => rfl⟩, rfl⟩
    clear hmap hAs hbA hbB hBs hbC
    refine (refused_any _ _ _ _ _ _ _ hR HWF.out (by have := HL.out.1; omega) (by have := HL.out.1; omega)).mono ?_
    rintro e w2 ⟨rfl, hg, hok⟩
    have hs2 := hg.size
    replace rbz := (hg.block w.heap.size (by omega) (by intro e; injection e with e; omega)).trans rbz
    replace gbz := (hg.block (w.heap.size + 1 + 1) (by omega) (by intro e; injection e with e; omega)).trans gbz
    have hb2 : Below w.heap.size w w2 := hwC.grown hg hwC.size (fun k hk => by cases hk; omega)
    have HOK := Lib.hid hok
    clear hR hok hg
    have hgw : w.heap.size < w.heap.size + 1 + 1 := by omega
    have hmw : w.heap.size < w.heap.size + 1 := by omega
    have hmg : w.heap.size + 1 < w.heap.size + 1 + 1 := by omega
    have hg2 : w.heap.size + 1 + 1 < w2.heap.size := by omega
    clear hCs hs2
    generalize w.heap.size + 1 + 1 = g at *
    generalize w.heap.size + 1 = mb at *
    by_cases he : (refusedP ls).2 = 0
    · have hsm := refused_ok ls he
      obtain ⟨seen, hseen, hRI⟩ := HOK.out he
      obtain ⟨hall, hin⟩ := ref1_ok ls [] seen 0 hseen
      have HS := Lib.hid (show Sized ls from ⟨hsm, fun l hl => fits_list l (hall l hl).2.2, fun l hl => (HWF.out l hl).1⟩)
      have HIN := Lib.hid (show ∀ x, (seenMap seen x).isSome = true ↔ isLab ls x from fun x => by
        rw [← (by simpa using hin x : x ∈ seen ↔ isLab ls x)]
        unfold seenMap
        by_cases hx : x ∈ seen <;> simp [hx])
      have HMP := Lib.hid hRI.map
      have HE := Lib.hid he
      have he' : ((refusedP ls).2 == 0) = true := by simpa using he
      clear hin hseen hRI hall HOK he
      have t0 := cell_of_block gbz 0
      have t2 := cell_of_block gbz 2
      have t3 := cell_of_block gbz 3
      have y2 := unfrozen_of_block gbz 2
      have y3 := unfrozen_of_block gbz 3
      have hmk1 := print_make (P := Tryz.prog) 35 3 .i64 8 Tryz.underlying35 (by kernel_rfl) (by decide) ls.length (by omega)
      have hmk2 := print_make_of (P := Tryz.prog) 75 4 (.bool false) 1 Tryz.underlying75 (by kernel_rfl) rfl (by decide) ls.length (by omega)
      generalize refusedP ls = rp at he' ⊢
      go_wp2_with fail
      go_cut [] (fun wc => ∃ lb pb, Hid (LI w wc wc g mb lb pb A ls.length c (List.replicate ls.length false) (List.replicate ls.length 0) 0 (seenMap seen)) ∧ Hid (wc.heap[w.heap.size]? = some (.cells #[.slice none 0 0, .slice none 0 0, .slice none 0 0, .int .i64 0] 43 (0, 0))))
      case first =>
        go_region
        all_goals go_wp2_with fail
        all_goals go_meet
        · have T := two_new ((w2.setCell ⟨g, 2, none⟩ (.slice (some ⟨w2.heap.size, 0, none⟩) ls.length ls.length)).setCell ⟨g, 3, none⟩ (.slice (some ⟨w2.heap.size + 1, 0, none⟩) ls.length ls.length)) (madeCells #[.bool false] ls.length) (madeCells #[.int .i64 0] ls.length) 4 3
          rw [World.size_setCell, World.size_setCell] at T
          obtain ⟨T1, T2, T3⟩ := T
          obtain ⟨e1, e2⟩ := li_start (lb := w2.heap.size) (pb := w2.heap.size + 1) gbz rbz HMP.out hb2 hgw hmw hmg hg2 (by omega) (by omega) (by omega) T1 T2 T3
          exact ⟨_, _, Lib.hid e1, Lib.hid e2⟩
        · have T := two_new ((w2.setCell ⟨g, 2, none⟩ (.slice (some ⟨w2.heap.size + 1, 0, none⟩) ls.length ls.length)).setCell ⟨g, 3, none⟩ (.slice (some ⟨w2.heap.size, 0, none⟩) ls.length ls.length)) (madeCells #[.int .i64 0] ls.length) (madeCells #[.bool false] ls.length) 3 4
          rw [World.size_setCell, World.size_setCell] at T
          obtain ⟨T1, T2, T3⟩ := T
          obtain ⟨e1, e2⟩ := li_start (lb := w2.heap.size + 1) (pb := w2.heap.size) gbz rbz HMP.out hb2 hgw hmw hmg hg2 (by omega) (by omega) (by omega) T2 T1 T3
          exact ⟨_, _, Lib.hid e1, Lib.hid e2⟩
      case rest =>
        obtain ⟨lb, pb, HLI, HRB⟩ := hcut
        clear t0 t2 t3 y2 y3 hmk1 hmk2 HMP rbz gbz hb2 hwC
        have HJ : Hid (JI ls w (wc.alloc (.cells #[.slice none 0 0, .slice none 0 0, .slice none 0 0, .int .i64 0] 43)) A c g mb lb pb wc.heap.size (List.replicate ls.length false) (List.replicate ls.length 0) 0 (seenMap seen) 0) := Lib.hid (by
          have hbo := (Below.refl _ wc).alloc (Nat.le_refl _) (Obj.cells #[.slice none 0 0, .slice none 0 0, .slice none 0 0, .int .i64 0] 43)
          have hlo := HLI.out
          have l1 := (Array.getElem?_eq_some_iff.1 hlo.blkG).1
          have l2 := (Array.getElem?_eq_some_iff.1 hlo.blkL).1
          have l3 := (Array.getElem?_eq_some_iff.1 hlo.blkP).1
          have l4 := hlo.map.lt
          have l5 := (Array.getElem?_eq_some_iff.1 HRB.out).1
          have l6 : lb ≠ w.heap.size := by rintro rfl; have := HRB.out; rw [hlo.blkL] at this; injection this with this; injection this with _ this; cases this
          have l7 : pb ≠ w.heap.size := by rintro rfl; have := HRB.out; rw [hlo.blkP] at this; injection this with this; injection this with _ this; cases this
          exact ⟨(hlo.below hbo).rebase, ⟨heap_alloc_new _ _, World.ownsRow_nil _ _ _ _, World.ownsRow_nil _ _ _ _, Nat.lt_succ_self _⟩, below_blk hbo HRB.out, HIN.out, rfl, HS.out, HE.out, by simp, l1, l2, l3, l4, l5, by omega, l6, l7, by omega⟩)
        go_wp2_with fail
        go_step3
        rename_i hK
        exact hK _ _ (again _ _ ⟨g, mb, lb, pb, wc.heap.size, _, _, _, _, 0, rfl, rfl, rfl, rfl, rfl, rfl, HJ⟩)
    · have hasm : asm ls = ⟨[], [], [], 0, (refusedP ls).1, (refusedP ls).2⟩ := by unfold asm; rw [if_pos he]
      have HA := Lib.hid hasm
      have he' : ((refusedP ls).2 == 0) = false := by simpa using he
      generalize refusedP ls = rp at he he' HA ⊢
      clear hasm he
      have r0 := cell_of_block rbz 0
      have r1 := cell_of_block rbz 1
      have r2 := cell_of_block rbz 2
      have r3 := cell_of_block rbz 3
      have y0 := unfrozen_of_block rbz 0
      have y1 := unfrozen_of_block rbz 1
      have y2 := unfrozen_of_block rbz 2
      have y3 := unfrozen_of_block rbz 3
      clear rbz gbz HOK
      go_wp2_with fail
      simp only [Exit.jump]
      refine bodyPost_ret (v := .tuple #[.agg #[.slice none 0 0, .slice none 0 0, .slice none 0 0, .int .i64 0], .int .i64 rp.1, .int .i64 rp.2]) (by simp [results, Tryz.results19, go_sem, r0, r1, r2, r3]) rfl ?_
      refine ⟨.slice none 0 0, .slice none 0 0, .slice none 0 0, by rw [HA.out]; rfl, by rw [HA.out]; exact ⟨World.ownsRow_nil _ _ _ _, World.ownsRow_nil _ _ _ _, World.ownsRow_nil _ _ _ _, fun k hk => by cases hk⟩, ?_⟩
      exact (((hb2.setCell (Nat.le_refl _) _).setCell (Nat.le_refl _) _).setCell (Nat.le_refl _) _).setCell (Nat.le_refl _) _
    --DEV>

end Go.Proofs.YtlhgfhmdhmgmpaaGreatDoor
