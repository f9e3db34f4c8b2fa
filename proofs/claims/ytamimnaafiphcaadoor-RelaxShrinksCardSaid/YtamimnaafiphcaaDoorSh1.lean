/- RelaxShrinks: what the walk holds. -/
import Derived.Test.YtamimnaafiphcaaDoorPuSh
import Derived.Test.YtamimnaafiphcaaDoorAl
import Derived.Test.YtamimnaafiphcaaDoorRxZ3
set_option linter.unusedVariables false
set_option linter.unusedSimpArgs false
namespace Go.Proofs.YtamimnaafiphcaaDoor.PR1S
open Go.RowKit Go.Proofs.YtamimnaafiphcaaDoorW.PrintWords Go.Proofs.YtamimnaafiphcaaDoorW.PrintLast Go.Proofs.YtamimnaafiphcaaDoorW.PrintMore Go.Maps Go.Joins

theorem s_own {k : IntKind} {w : World} {B e n : Nat} {v : Value} {xs : List Int} (o : w.ownsRow B e 1 v n (xs.map (Value.int k))) (hn : xs.length = n) : ∃ A c, v = .slice A n c ∧ n ≤ c ∧ Kd.C (Kd.int k) w A n xs := by
  obtain ⟨A, c, rfl, h⟩ := own_reads_row o (reps_ints k xs) hn
  refine ⟨A, c, rfl, ?_, h⟩
  rcases o.2 with ⟨e, h0⟩ | ⟨g, cap, cur, e, _, _, h1, _⟩
  · cases e; omega
  · cases e; exact h1

theorem s_ownL {w : World} {B e n : Nat} {v : Value} {xs : List Value} {ls : List Line} (o : w.ownsRow B e 7 v n xs) (h : Reps (kLine.K w) 7 ls xs) (hn : ls.length = n) : ∃ A c, v = .slice A ls.length c ∧ ls.length ≤ c ∧ Lines w (.slice A ls.length c) ls := by
  have hl := Lines.own o h hn
  subst hn
  rcases o.2 with ⟨rfl, h0⟩ | ⟨g, cap, cur, rfl, _, _, h1, _⟩
  · exact ⟨none, 0, by rw [h0], by omega, by rw [h0]; exact hl⟩
  · exact ⟨_, cap, rfl, h1, hl⟩

theorem s_ge {w : World} {B e s n : Nat} {v : Value} {xs : List Value} (o : w.ownsRow B e s v n xs) (k : Nat) (hk : v.ownBlock = some k) : B ≤ k := by
  rcases o.2 with ⟨rfl, _⟩ | ⟨g, cap, cur, rfl, hb, _⟩
  · simp [Value.ownBlock] at hk
  · simp [Value.ownBlock] at hk
    omega

/-- Behind the two appends. -/
structure SL (w w3 W : World) (L : List Line) (A : Option Addr) (c : Nat) : Prop where
  ln : Lines W (.slice A L.length c) L
  cap : L.length ≤ c
  bel : Below w3.heap.size w3 W

theorem s_two {w3 w4 w5 : World} {B : Nat} {v4 v5 : Value} {n4 n5 : Nat} {xs ys : List Value} {l1 l2 L : List Line} (hB : w3.heap.size = B) (ho4 : w4.ownsRow B 40 7 v4 n4 xs) (hg4 : w3.grownBy w4 none) (hg5 : w4.grownBy w5 v4.ownBlock) (ho5 : w5.ownsRow B 40 7 v5 n5 (xs ++ ys))
    (r1 : Reps (kLine.K w3) 7 l1 xs) (r2 : Reps (kLine.K w3) 7 l2 ys) (hL : l1 ++ l2 = L) (hn : (l1 ++ l2).length = n5) : ∃ A c, v5 = .slice A L.length c ∧ SL w3 w3 w5 L A c := by
  subst hB
  subst hL
  have hb4 : Below w3.heap.size w3 w4 := (Below.refl _ w3).grown hg4 (Nat.le_refl _) (fun b hb => by cases hb)
  have hb5 : Below w3.heap.size w3 w5 := hb4.grown hg5 hb4.size (fun b hb => s_ge ho4 b hb)
  obtain ⟨A, c, rfl, h1, h2⟩ := s_ownL ho5 (al_below (al_append r1 r2) hb5) hn
  exact ⟨A, c, rfl, h2, h1, hb5⟩

/-- An answer in memory: its block, its rows. -/
structure SW (w W : World) (g : Nat) (a : Asm) (AW : Option Addr) (cW : Nat) (AK : Option Addr) (cK : Nat) (AP : Option Addr) (cP : Nat) : Prop where
  blk : W.heap[g]? = some (.cells #[.slice AW a.words.length cW, .slice AK a.kinds.length cK, .slice AP a.places.length cP, .int .i64 a.rounds] 27 (0, 0))
  rw_ : Kd.C (Kd.int .u32) W AW a.words.length a.words
  rk_ : Kd.C (Kd.int .i64) W AK a.kinds.length a.kinds
  rp_ : Kd.C (Kd.int .i64) W AP a.places.length a.places
  cw : a.words.length ≤ cW
  ck : a.kinds.length ≤ cK
  cp : a.places.length ≤ cP
  bel : Below w.heap.size w W

theorem SW.next {w W W' : World} {g : Nat} {a : Asm} {AW : Option Addr} {cW : Nat} {AK : Option Addr} {cK : Nat} {AP : Option Addr} {cP : Nat} (h : SW w W g a AW cW AK cK AP cP) (hb : Below W.heap.size W W') : SW w W' g a AW cW AK cK AP cP :=
  ⟨below_blk hb h.blk, Kd.C_below h.rw_ hb, Kd.C_below h.rk_ hb, Kd.C_below h.rp_ hb, h.cw, h.ck, h.cp, bj h.bel hb⟩

theorem SW.cells {w W : World} {g : Nat} {a : Asm} {AW : Option Addr} {cW : Nat} {AK : Option Addr} {cK : Nat} {AP : Option Addr} {cP : Nat} (h : SW w W g a AW cW AK cK AP cP) :
    W.cell? ⟨g, 0, none⟩ = some (.slice AW a.words.length cW) ∧ W.cell? ⟨g, 1, none⟩ = some (.slice AK a.kinds.length cK) ∧ W.cell? ⟨g, 2, none⟩ = some (.slice AP a.places.length cP) ∧ W.cell? ⟨g, 3, none⟩ = some (.int .i64 a.rounds) := by
  have hc := cell_of_block h.blk
  exact ⟨by rw [hc]; rfl, by rw [hc]; rfl, by rw [hc]; rfl, by rw [hc]; rfl⟩

theorem s_at {w : World} {A : Option Addr} {n c : Nat} {ls : List Line} (h : Lines w (.slice A n c) ls) (i : Nat) (hi : i < n) :
    ∃ ad l AL cL, A = some ad ∧ ls[i]? = some l ∧ LineAt w (ad.add (i * 7)) l (.slice AL l.list.length cL) ∧ l.list.length ≤ cL ∧ kInt.C w AL l.list.length l.list := by
  obtain ⟨A', c', e, hr⟩ := h
  injection e with e1 e2 e3
  subst e1; subst e2
  obtain ⟨ad, rfl, hc⟩ := hr.2.2 (by omega)
  obtain ⟨cs, hs, hk, hcell⟩ := hc i (ls[i]) (List.getElem?_eq_getElem hi)
  obtain ⟨c0, r0, rfl, h0, c1, r1, rfl, h1, c2, r2, rfl, h2, c3, r3, rfl, h3, c4, r4, rfl, h4, c5, r5, rfl, h5, AL, cL, rfl, hlc, hrL⟩ := hk
  have e0 : c0 = [Value.int .i64 ls[i].op] := h0
  have e1 : c1 = [Value.int .i64 ls[i].a] := h1
  have e2 : c2 = [Value.int .i64 ls[i].b] := h2
  have e3 : c3 = [Value.int .i64 ls[i].imm] := h3
  have e4 : c4 = [Value.int .u32 ls[i].n] := h4
  have e5 : c5 = [Value.int .i64 ls[i].label] := h5
  subst e0; subst e1; subst e2; subst e3; subst e4; subst e5
  have f : ∀ j, 0 < j → ∀ u, w.cell? (ad.add (i * 7 + j)) = some u → w.cell? ⟨(ad.add (i * 7)).block, (ad.add (i * 7)).off + j, none⟩ = some u := fun j hj u hu => by
    rw [← add_field ad (i * 7) j hj]; exact hu
  exact ⟨ad, ls[i], AL, cL, rfl, List.getElem?_eq_getElem hi, ⟨hcell 0 _ rfl, f 1 (by decide) _ (hcell 1 _ rfl), f 2 (by decide) _ (hcell 2 _ rfl), f 3 (by decide) _ (hcell 3 _ rfl), f 4 (by decide) _ (hcell 4 _ rfl), f 5 (by decide) _ (hcell 5 _ rfl), f 6 (by decide) _ (hcell 6 _ rfl)⟩, hlc, hrL⟩

theorem s_cut {ls : List Line} {i : Nat} (hi : i < ls.length) : insA i (ls.getD i default) (ls.take i ++ ls.drop (i + 1)) = ls := by
  have hl : (ls.take i).length = i := by rw [List.length_take]; omega
  unfold insA
  rw [List.take_left' hl, List.drop_left' hl, List.getD_eq_getElem?_getD, List.getElem?_eq_getElem hi, List.append_assoc, Option.getD_some, List.singleton_append, ← List.drop_eq_getElem_cons hi, List.take_append_drop]

/-- Is a line one word, and does it go nowhere? -/
def plainB (l : Line) : Bool := (l.op != 0) && (!goOp l.op) && (l.op != 42) && (l.op != 2)

theorem plain_of {ls : List Line} (T : Takes ls) {i : Nat} (hi : i < ls.length) (h : plainB (ls.getD i default) = true) : Plain (ls.getD i default) := by
  have hmem : ls.getD i default ∈ ls := by
    rw [List.getD_eq_getElem?_getD, List.getElem?_eq_getElem hi]
    exact List.getElem_mem hi
  obtain ⟨h0, h1, -⟩ := T.fits _ hmem
  unfold plainB at h
  simp only [Bool.and_eq_true, bne_iff_ne, Bool.not_eq_true'] at h
  exact ⟨h.1.1.1, h.1.1.2, h.1.2, h.2, h0, h1⟩

/-- What the law says of the shorter list. -/
theorem s_law {ls : List Line} {i : Nat} (hi : i < ls.length) (he : (asm ls).err = 0) (hp : plainB (ls.getD i default) = true) :
    (asm (ls.take i ++ ls.drop (i + 1))).err = 0 ∧ (asm (ls.take i ++ ls.drop (i + 1))).places.length = (ls.take i ++ ls.drop (i + 1)).length ∧ (asm (ls.take i ++ ls.drop (i + 1))).words.length < (asm ls).words.length ∧
    ∀ k, brOp ((ls.take i ++ ls.drop (i + 1)).getD k default).op = true → (fin (ls.take i ++ ls.drop (i + 1))).1.getD k false = true →
      brOp (ls.getD (sh i k) default).op = true ∧ (fin ls).1.getD (sh i k) false = true := by
  have hl : i ≤ (ls.take i ++ ls.drop (i + 1)).length := by rw [List.length_append, List.length_take, List.length_drop]; omega
  have hP := plain_of (asm_ok' he).1 hi hp
  obtain ⟨-, h2, h3, h4, h5⟩ := asm_del hl hP (by rw [s_cut hi]; exact he)
  rw [s_cut hi] at h4 h5
  refine ⟨h2, h3, h4, fun k hb hk => ⟨?_, h5 k hb hk⟩⟩
  have := insA_sh (a := ls.getD i default) (d := default) hl k
  rw [s_cut hi] at this
  rw [this]
  exact hb

theorem s_longC {ls : List Line} (he : (asm ls).err = 0) (hwf : ∀ l ∈ ls, (Lit.int .i64 l.label).wf = true) {i : Nat} (hi : i < ls.length) (hb : brOp (ls.getD i default).op = true)
    {w W : World} {g : Nat} {A : Option Addr} {c : Nat} {AW : Option Addr} {cW : Nat} {AK : Option Addr} {cK : Nat} {AP : Option Addr} {cP : Nat} (S : SW w W g (asm ls) AW cW AK cK AP cP) (hl : Lines W (.slice A ls.length c) ls) (hc : ls.length ≤ c) (hL : Laid W) :
    Calls Tryd.prog 34 #[.slice A ls.length c, .agg #[.slice AW (asm ls).words.length cW, .slice AK (asm ls).kinds.length cK, .slice AP (asm ls).places.length cP, .int .i64 (asm ls).rounds], .int .i64 (i : Int)] W fun e w' => e = .returned (.bool ((fin ls).1.getD i false)) ∧ Below W.heap.size W w' := by
  obtain ⟨k, hk⟩ := (s_long he hwf hi hb).rounds
  have := switchbacklaw17_long.calls k A c (ls.map ofLine) AW cW (asm ls).words AK cK (asm ls).kinds AP cP (asm ls).places ((asm ls).rounds : Int) (i : Int) _ W (of_lines hl) (by rw [List.length_map]; exact hc) S.rw_ S.cw S.rk_ S.ck S.rp_ S.cp ⟨hL⟩ hk
  rwa [List.length_map] at this

theorem s_wrap {k n : Nat} (h : k < n) (hn : n ≤ 60000) : wrap64 ((k : Int) + 1) = (k : Int) + 1 := by
  unfold wrap64
  omega

theorem s_wrap2 {k n : Nat} (h : k < n) (hn : n ≤ 60000) : IntKind.i64.wrap ((k : Int) + 1) = (k : Int) + 1 := IntWalk.i64_in _ (by omega)

end Go.Proofs.YtamimnaafiphcaaDoor.PR1S
