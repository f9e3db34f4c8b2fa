/- A []api.Line that came in, opened: all its numbers in range. -/
import Derived.Test.YtlhgfhmdhmgmpaaGreatDoorLiZ
import Derived.WalkKit
import Derived.OpenShut
import Derived.Deep.Slices
import Derived.ChangeArms
namespace Go.Proofs.YtlhgfhmdhmgmpaaGreatDoor
open Go.RowKit Go.Proofs.YtlhgfhmdhmgmpaaGreatDoorW.PrintWords Go.Maps Go.Joins Go.ChangeShapes Go.WideShapes

variable {H : Type} {enc : TypeId × Value → H} {W : World} {base : Nat} {spare : Nat → Bool} {held : Bool}

theorem open_list {fuel : Nat} {cs : List Value} {x : DataW H × List MemPlace} (h : DataW.trod enc Tryz.prog W base spare held fuel 35 cs = some x) :
    ∃ (xs : List Int) (A : Option Addr) (c : Nat), cs = [.slice A xs.length c] ∧ xs.length ≤ c ∧ kInt.C W A xs.length xs ∧ ∀ y ∈ xs, (Lit.int .i64 y).wf = true := by
  rcases Deep.open_slice1 Tryz.underlying35 (by kernel_rfl) h with ⟨rfl, _⟩ | ⟨a, len, cap, m, n, V, D, Pl, rfl, hb, hl, hm, hmm, rfl, hx⟩
  · exact ⟨[], none, 0, rfl, Nat.le_refl _, Kd.C_nil kInt W, by simp⟩
  · have hml : len ≤ m := by rw [hmm]; split <;> omega
    have hv : ∀ i, i < len → ∃ z, V i = .int .i64 z ∧ (Lit.int .i64 z).wf = true := fun i hi => by
      obtain ⟨z, e, _, hw⟩ := DataW.trod_int Tryz.underlying3 (hx i (by omega)).2
      exact ⟨z, by simpa using e, hw⟩
    obtain ⟨f, hf⟩ : ∃ f : Nat → Int, ∀ i, i < len → V i = .int .i64 (f i) ∧ (Lit.int .i64 (f i)).wf = true :=
      ⟨fun i => if hi : i < len then (hv i hi).choose else 0, fun i hi => by simp only [hi, dif_pos]; exact (hv i hi).choose_spec⟩
    refine ⟨(List.range len).map f, some a, cap, by simp, by simpa using hl, ?_, fun y hy => ?_⟩
    · refine ⟨rfl, by simp; unfold maxLen at hm; omega, fun _ => ⟨a, rfl, fun j p hj => ⟨[.int .i64 p], rfl, rfl, fun i u hu => ?_⟩⟩⟩
      have hj' : j < len := by have := (List.getElem?_eq_some_iff.1 hj).1; simpa using this
      have hp : p = f j := by simp [hj'] at hj; exact hj.symm
      have hi : i = 0 := by have := (List.getElem?_eq_some_iff.1 hu).1; simpa using this
      subst hi
      cases hu
      rw [show j * kInt.sz + 0 = j from by show j * 1 + 0 = j; omega, hp, ← (hf j hj').1]
      exact (hx j (by omega)).1
    · obtain ⟨i, hi, rfl⟩ := List.mem_map.1 hy
      exact (hf i (List.mem_range.1 hi)).2

theorem open_ints {fuel : Nat} {cs : List Value} {x : DataW H × List MemPlace} (h : DataW.trod enc Tryz.prog W base spare held fuel 35 cs = some x) :
    ∃ (xs : List Int) (A : Option Addr) (c : Nat), cs = [.slice A xs.length c] ∧ kInt.C W A xs.length xs ∧ (∀ y ∈ xs, (Lit.int .i64 y).wf = true) ∧ xs.length ≤ c := by
  obtain ⟨xs, A, c, e, h1, h2, h3⟩ := open_list h
  exact ⟨xs, A, c, e, h2, h3, h1⟩

theorem list7 {α : Type} {cs : List α} (h : cs.length = 7) : ∃ c0 c1 c2 c3 c4 c5 c6, cs = [c0, c1, c2, c3, c4, c5, c6] := by
  match cs, h with
  | [c0, c1, c2, c3, c4, c5, c6], _ => exact ⟨c0, c1, c2, c3, c4, c5, c6, rfl⟩

theorem open_line {fuel : Nat} {cs : List Value} {x : DataW H × List MemPlace} (h : DataW.trod enc Tryz.prog W base spare held fuel 49 cs = some x) :
    ∃ (l : Line) (A : Option Addr) (c : Nat), cs = [.int .i64 l.op, .int .i64 l.a, .int .i64 l.b, .int .i64 l.imm, .int .u32 l.n, .int .i64 l.label, .slice A l.list.length c] ∧ l.list.length ≤ c ∧ kInt.C W A l.list.length l.list ∧
      ((Lit.int .i64 l.label).wf = true ∧ ∀ y ∈ l.list, (Lit.int .i64 y).wf = true) ∧ ((Lit.int .i64 l.op).wf = true ∧ (Lit.int .i64 l.a).wf = true ∧ (Lit.int .i64 l.b).wf = true ∧ (Lit.int .i64 l.imm).wf = true ∧ (Lit.int .u32 l.n).wf = true) := by
  obtain ⟨xs, n, _, rfl, hl, hlen, hf⟩ := DataW.trod_struct Tryz.underlying49 h
  have h7 : cs.length = 7 := hl.trans (by kernel_rfl)
  obtain ⟨c0, c1, c2, c3, c4, c5, c6, rfl⟩ := list7 h7
  obtain ⟨y0, y1, y2, y3, y4, y5, y6, rfl⟩ := list7 (show xs.length = 7 from hlen)
  have hci : Tryz.prog.cellsOf 3 = 1 := by kernel_rfl
  have hcu : Tryz.prog.cellsOf 47 = 1 := by kernel_rfl
  have hcl : Tryz.prog.cellsOf 35 = 1 := by kernel_rfl
  have g0 : DataW.trod enc Tryz.prog W base spare held n 3 (([c0, c1, c2, c3, c4, c5, c6].drop 0).take (Tryz.prog.cellsOf 3)) = some y0 := hf 0 _ rfl
  rw [hci] at g0
  replace g0 : DataW.trod enc Tryz.prog W base spare held n 3 [c0] = some y0 := g0
  have g1 : DataW.trod enc Tryz.prog W base spare held n 3 (([c0, c1, c2, c3, c4, c5, c6].drop 1).take (Tryz.prog.cellsOf 3)) = some y1 := hf 1 _ rfl
  rw [hci] at g1
  replace g1 : DataW.trod enc Tryz.prog W base spare held n 3 [c1] = some y1 := g1
  have g2 : DataW.trod enc Tryz.prog W base spare held n 3 (([c0, c1, c2, c3, c4, c5, c6].drop 2).take (Tryz.prog.cellsOf 3)) = some y2 := hf 2 _ rfl
  rw [hci] at g2
  replace g2 : DataW.trod enc Tryz.prog W base spare held n 3 [c2] = some y2 := g2
  have g3 : DataW.trod enc Tryz.prog W base spare held n 3 (([c0, c1, c2, c3, c4, c5, c6].drop 3).take (Tryz.prog.cellsOf 3)) = some y3 := hf 3 _ rfl
  rw [hci] at g3
  replace g3 : DataW.trod enc Tryz.prog W base spare held n 3 [c3] = some y3 := g3
  have g4 : DataW.trod enc Tryz.prog W base spare held n 47 (([c0, c1, c2, c3, c4, c5, c6].drop 4).take (Tryz.prog.cellsOf 47)) = some y4 := hf 4 _ rfl
  rw [hcu] at g4
  replace g4 : DataW.trod enc Tryz.prog W base spare held n 47 [c4] = some y4 := g4
  have g5 : DataW.trod enc Tryz.prog W base spare held n 3 (([c0, c1, c2, c3, c4, c5, c6].drop 5).take (Tryz.prog.cellsOf 3)) = some y5 := hf 5 _ rfl
  rw [hci] at g5
  replace g5 : DataW.trod enc Tryz.prog W base spare held n 3 [c5] = some y5 := g5
  have g6 : DataW.trod enc Tryz.prog W base spare held n 35 (([c0, c1, c2, c3, c4, c5, c6].drop 6).take (Tryz.prog.cellsOf 35)) = some y6 := hf 6 _ rfl
  rw [hcl] at g6
  replace g6 : DataW.trod enc Tryz.prog W base spare held n 35 [c6] = some y6 := g6
  obtain ⟨z0, e0, _, w0⟩ := DataW.trod_int Tryz.underlying3 g0
  obtain ⟨z1, e1, _, w1⟩ := DataW.trod_int Tryz.underlying3 g1
  obtain ⟨z2, e2, _, w2⟩ := DataW.trod_int Tryz.underlying3 g2
  obtain ⟨z3, e3, _, w3⟩ := DataW.trod_int Tryz.underlying3 g3
  obtain ⟨z4, e4, _, w4⟩ := DataW.trod_int Tryz.underlying47 g4
  obtain ⟨z5, e5, _, w5⟩ := DataW.trod_int Tryz.underlying3 g5
  obtain ⟨ys, A, c, e6, hlc, hk, hw⟩ := open_list g6
  obtain rfl : c0 = .int .i64 z0 := by simpa using e0
  obtain rfl : c1 = .int .i64 z1 := by simpa using e1
  obtain rfl : c2 = .int .i64 z2 := by simpa using e2
  obtain rfl : c3 = .int .i64 z3 := by simpa using e3
  obtain rfl : c4 = .int .u32 z4 := by simpa using e4
  obtain rfl : c5 = .int .i64 z5 := by simpa using e5
  obtain rfl : c6 = .slice A ys.length c := by simpa using e6
  exact ⟨⟨z0, z1, z2, z3, z4, z5, ys⟩, A, c, rfl, hlc, hk, ⟨w5, hw⟩, w0, w1, w2, w3, w4⟩

theorem add2 (a : Addr) (i j : Nat) : (a.add i).add j = a.add (i + j) := by
  unfold Addr.add
  split <;> split <;> simp_all [Nat.add_assoc]

theorem wf_line {l : Line} (h1 : (Lit.int .i64 l.label).wf = true ∧ ∀ y ∈ l.list, (Lit.int .i64 y).wf = true) (h2 : (Lit.int .i64 l.a).wf = true) (h3 : (Lit.int .i64 l.b).wf = true) (h4 : (Lit.int .i64 l.imm).wf = true) (h5 : (Lit.int .u32 l.n).wf = true) : WfL l := by
  have a := bounds_i64 h2
  have b := bounds_i64 h3
  have c := bounds_i64 h4
  have d := bounds_u32 h5
  have e := bounds_i64 h1.1
  exact ⟨by omega, by omega, by omega, by omega, by omega, by omega, by omega, by omega, by omega, by omega, fun x hx => by have := bounds_i64 (h1.2 x hx); omega⟩

theorem open_lines {fuel : Nat} {cs : List Value} {x : DataW H × List MemPlace} (h : DataW.trod enc Tryz.prog W base spare held fuel 22 cs = some x) :
    ∃ (ls : List Line) (A : Option Addr) (c : Nat), cs = [.slice A ls.length c] ∧ Lines W (.slice A ls.length c) ls ∧ (∀ l ∈ ls, WfL l) ∧ ls.length ≤ c := by
  rcases Deep.open_slice Tryz.underlying22 h with ⟨rfl, _⟩ | ⟨a, len, cap, m, n, D, Pl, rfl, hb, hl, hm, hmm, rfl, hx⟩
  · exact ⟨[], none, 0, rfl, Lines.mk' (by decide) (fun h => absurd h (Nat.lt_irrefl 0)), by simp, Nat.le_refl _⟩
  · have hml : len ≤ m := by rw [hmm]; split <;> omega
    have hcl : Tryz.prog.cellsOf 49 = 7 := by kernel_rfl
    have hv : ∀ i, i < len → ∃ l : Line, (∃ (A : Option Addr) (c : Nat), l.list.length ≤ c ∧ kInt.C W A l.list.length l.list ∧ ∀ j u, [Value.int .i64 l.op, .int .i64 l.a, .int .i64 l.b, .int .i64 l.imm, .int .u32 l.n, .int .i64 l.label, .slice A l.list.length c][j]? = some u → W.cell? (a.add (i * 7 + j)) = some u) ∧
        WfL l := fun i hi => by
      obtain ⟨cs', h1, h2⟩ := hx i (by omega)
      obtain ⟨l, A, c, rfl, hlc, hk, hw0, _, hw1, hw2, hw3, hw4⟩ := open_line h2
      have hw := wf_line hw0 hw1 hw2 hw3 hw4
      obtain ⟨_, _, h3⟩ := World.cells?_some h1
      refine ⟨l, ⟨A, c, hlc, hk, fun j u hu => ?_⟩, hw⟩
      have hj := (List.getElem?_eq_some_iff.1 hu).1
      have := h3 j (by rw [hcl]; simpa using hj)
      rw [add2, hcl] at this
      rw [this]
      exact hu
    obtain ⟨f, hf⟩ : ∃ f : Nat → Line, ∀ i (hi : i < len), f i = (hv i hi).choose :=
      ⟨fun i => if hi : i < len then (hv i hi).choose else ⟨0, 0, 0, 0, 0, 0, []⟩, fun i hi => by simp only [hi, dif_pos]⟩
    have hlen : ((List.range len).map f).length = len := by simp
    refine ⟨(List.range len).map f, some a, cap, by rw [hlen], Lines.mk' (by rw [hlen]; unfold maxLen at hm; omega) fun _ => ⟨a, rfl, fun i l hli => ?_⟩, fun l hl' => ?_, by rw [hlen]; exact hl⟩
    · have hi : i < len := by have := (List.getElem?_eq_some_iff.1 hli).1; simpa using this
      have hp : l = f i := by simp [hi] at hli; exact hli.symm
      rw [hp, hf i hi]
      exact (hv i hi).choose_spec.1
    · obtain ⟨i, hi, rfl⟩ := List.mem_map.1 hl'
      have hi' := List.mem_range.1 hi
      rw [hf i hi']
      exact (hv i hi').choose_spec.2

end Go.Proofs.YtlhgfhmdhmgmpaaGreatDoor
