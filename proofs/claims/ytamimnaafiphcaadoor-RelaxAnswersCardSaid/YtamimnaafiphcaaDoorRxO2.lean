/- A []api.Line that came in, opened, with what its weight bounds. -/
import Derived.Test.YtamimnaafiphcaaDoorRxZ4
import Derived.SizedLaws
import Derived.Test.YtamimnaafiphcaaDoorWSized
namespace Go.Proofs.YtamimnaafiphcaaDoor
open Go.RowKit Go.Proofs.YtamimnaafiphcaaDoorW.PrintWords Go.Maps Go.Joins Go.ChangeShapes Go.WideShapes

variable {H : Type} {enc : TypeId × Value → H} {W : World} {base : Nat} {spare : Nat → Bool} {held : Bool}

theorem weights_all {P : Program} {e : TypeId} : ∀ {L : List (DataW H)} {d : DataW H}, d ∈ L → ∀ n ∈ d.weights P e, n ∈ DataW.weightsAll P e L
  | x :: L, d, hd, n, hn => by
    rw [DataW.weightsAll, List.mem_append]
    rcases List.mem_cons.1 hd with rfl | hd
    · exact .inl hn
    · exact .inr (weights_all hd n hn)

theorem line_sized {fuel : Nat} {cs : List Value} {x : DataW H × List MemPlace} {l : Line} {A : Option Addr} {c : Nat} (h : DataW.trod enc Tryd.prog W base spare held fuel 40 cs = some x) (hz : ∀ n ∈ x.1.weights Tryd.prog 40, n ≤ reachBytes)
    (he : cs = [.int .i64 l.op, .int .i64 l.a, .int .i64 l.b, .int .i64 l.imm, .int .u32 l.n, .int .i64 l.label, .slice A l.list.length c]) : l.list.length * 8 ≤ 140737488351232 := by
  obtain ⟨xs, n, _, rfl, hl, hlen, hf⟩ := DataW.trod_struct Tryd.underlying40 h
  subst he
  obtain ⟨y0, y1, y2, y3, y4, y5, y6, rfl⟩ := list7 (show xs.length = 7 from hlen)
  have hcl : Tryd.prog.cellsOf 25 = 1 := by kernel_rfl
  have g6 : DataW.trod enc Tryd.prog W base spare held n 25 (([Value.int .i64 l.op, .int .i64 l.a, .int .i64 l.b, .int .i64 l.imm, .int .u32 l.n, .int .i64 l.label, .slice A l.list.length c].drop 6).take (Tryd.prog.cellsOf 25)) = some y6 := hf 6 _ rfl
  rw [hcl] at g6
  replace g6 : DataW.trod enc Tryd.prog W base spare held n 25 [.slice A l.list.length c] = some y6 := g6
  have hw : (DataW.weightsEach Tryd.prog [3, 3, 3, 3, 38, 3, 25] [y0.1, y1.1, y2.1, y3.1, y4.1, y5.1, y6.1]).all (· ≤ reachBytes) = true := by
    rw [List.all_eq_true]
    intro m hm
    exact decide_eq_true (hz m (by simpa [DataW.weights, Tryd.underlying40] using hm))
  exact Go.Proofs.YtamimnaafiphcaaDoorW.PrintWords.sized_ints hw (j := 6) (t := 25) rfl rfl Tryd.underlying25 Tryd.underlying3 (by kernel_rfl) (by kernel_rfl) ⟨n, g6⟩

theorem open_lines_sized {fuel : Nat} {cs : List Value} {x : DataW H × List MemPlace} (hz : ∀ n ∈ x.1.weights Tryd.prog 22, n ≤ reachBytes) (h : DataW.trod enc Tryd.prog W base spare held fuel 22 cs = some x) :
    ∃ (ls : List Line) (A : Option Addr) (c : Nat), cs = [.slice A ls.length c] ∧ Lines W (.slice A ls.length c) ls ∧ (∀ l ∈ ls, (Lit.int .i64 l.label).wf = true ∧ ∀ y ∈ l.list, (Lit.int .i64 y).wf = true) ∧
      (ls.length ≤ c ∧ ls.length * 72 ≤ 140737488351232 ∧ ∀ l ∈ ls, l.list.length * 8 ≤ 140737488351232) := by
  rcases Deep.open_slice Tryd.underlying22 h with ⟨rfl, _⟩ | ⟨a, len, cap, m, n, D, Pl, rfl, hb, hl, hm, hmm, rfl, hx⟩
  · exact ⟨[], none, 0, rfl, Lines.mk' (by decide) (fun h => absurd h (Nat.lt_irrefl 0)), by simp, Nat.le_refl _, by decide, by simp⟩
  · have hml : len ≤ m := by rw [hmm]; split <;> omega
    have hcl : Tryd.prog.cellsOf 40 = 7 := by kernel_rfl
    have hbl : Tryd.prog.bytesOf 40 = 72 := by kernel_rfl
    have hz0 : ∀ i, i < len → ∀ k ∈ (D i).weights Tryd.prog 40, k ≤ reachBytes := fun i hi k hk => hz k (by
      simp only [DataW.weights, Tryd.underlying22, List.mem_cons, List.mem_append]
      exact .inr (.inl (weights_all (List.mem_map.2 ⟨i, List.mem_range.2 hi, rfl⟩) k hk)))
    have hzl : len * 72 ≤ 140737488351232 := by
      have := hz ((len + (m - len)) * 72) (by
        simp only [DataW.weights, Tryd.underlying22, List.mem_cons, hbl, List.length_map, List.length_range]
        exact .inl trivial)
      unfold reachBytes at this
      omega
    have hv : ∀ i, i < len → ∃ l : Line, (∃ (A : Option Addr) (c : Nat), l.list.length ≤ c ∧ kInt.C W A l.list.length l.list ∧ ∀ j u, [Value.int .i64 l.op, .int .i64 l.a, .int .i64 l.b, .int .i64 l.imm, .int .u32 l.n, .int .i64 l.label, .slice A l.list.length c][j]? = some u → W.cell? (a.add (i * 7 + j)) = some u) ∧
        (((Lit.int .i64 l.label).wf = true ∧ ∀ y ∈ l.list, (Lit.int .i64 y).wf = true) ∧ l.list.length * 8 ≤ 140737488351232) := fun i hi => by
      obtain ⟨cs', h1, h2⟩ := hx i (by omega)
      obtain ⟨l, A, c, hcs, hlc, hk, hw, _⟩ := open_line h2
      have h8 := line_sized h2 (hz0 i hi) hcs
      subst hcs
      obtain ⟨_, _, h3⟩ := World.cells?_some h1
      refine ⟨l, ⟨A, c, hlc, hk, fun j u hu => ?_⟩, hw, h8⟩
      have hj := (List.getElem?_eq_some_iff.1 hu).1
      have := h3 j (by rw [hcl]; simpa using hj)
      rw [add2, hcl] at this
      rw [this]
      exact hu
    obtain ⟨f, hf⟩ : ∃ f : Nat → Line, ∀ i (hi : i < len), f i = (hv i hi).choose :=
      ⟨fun i => if hi : i < len then (hv i hi).choose else default, fun i hi => by simp only [hi, dif_pos]⟩
    have hlen : ((List.range len).map f).length = len := by simp
    have hmem : ∀ l ∈ (List.range len).map f, ((Lit.int .i64 l.label).wf = true ∧ ∀ y ∈ l.list, (Lit.int .i64 y).wf = true) ∧ l.list.length * 8 ≤ 140737488351232 := fun l hl' => by
      obtain ⟨i, hi, rfl⟩ := List.mem_map.1 hl'
      have hi' := List.mem_range.1 hi
      rw [hf i hi']
      exact (hv i hi').choose_spec.2
    refine ⟨(List.range len).map f, some a, cap, by rw [hlen], Lines.mk' (by rw [hlen]; unfold maxLen at hm; omega) fun _ => ⟨a, rfl, fun i l hli => ?_⟩, fun l hl' => (hmem l hl').1, by rw [hlen]; exact hl, by rw [hlen]; exact hzl, fun l hl' => (hmem l hl').2⟩
    have hi : i < len := by have := (List.getElem?_eq_some_iff.1 hli).1; simpa using this
    have hp : l = f i := by simp [hi] at hli; exact hli.symm
    rw [hp, hf i hi]
    exact (hv i hi).choose_spec.1

end Go.Proofs.YtamimnaafiphcaaDoor
