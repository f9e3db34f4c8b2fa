/- relax's Assemble, given to the print: its plain form and its contract, out of the walk of its real body (asm_any). -/
import Derived.Test.YtamimnaafiphcaaDoorPR1Sx0
import Derived.Test.YtamimnaafiphcaaDoorRxZ3
namespace Go.Proofs.YtamimnaafiphcaaDoor.PR1S
open Go.RowKit Go.Proofs.YtamimnaafiphcaaDoorW.PrintWords Go.Proofs.YtamimnaafiphcaaDoorW.PrintLast Go.Proofs.YtamimnaafiphcaaDoorW.PrintMore

/-! ### relax_Assemble: function 19 -/
def toLine (x : S40) : Line := ⟨x.f0, x.f1, x.f2, x.f3, x.f4, x.f5, x.f6⟩

theorem lines_of {w : World} {A : Option Addr} {c : Nat} {l : List S40} (h : Kd.C k40 w A l.length l) : Lines w (.slice A l.length c) (l.map toLine) := by
  refine ⟨A, c, by rw [List.length_map], ?_⟩
  obtain ⟨h1, h2, h3⟩ := h
  refine ⟨by simp, by simpa using h2, fun hp => ?_⟩
  obtain ⟨ad, e, hc⟩ := h3 (by simpa using hp)
  refine ⟨ad, e, fun i p hi => ?_⟩
  rw [List.getElem?_map, Option.map_eq_some_iff] at hi
  obtain ⟨x, hx, rfl⟩ := hi
  obtain ⟨cs, e1, e2, e3⟩ := hc i x hx
  exact ⟨cs, e1, e2, e3⟩

def wfS (l : List S40) : Bool := l.all fun x => (Lit.int .i64 x.f5).wf && x.f6.all fun y => (Lit.int .i64 y).wf

theorem wfS_all {l : List S40} (h : wfS l = true) : ∀ m ∈ l.map toLine, (Lit.int .i64 m.label).wf = true ∧ ∀ x ∈ m.list, (Lit.int .i64 x).wf = true := by
  intro m hm
  obtain ⟨x, hx, rfl⟩ := List.mem_map.1 hm
  have := List.all_eq_true.1 h x hx
  rw [Bool.and_eq_true] at this
  exact ⟨this.1, fun y hy => List.all_eq_true.1 this.2 y hy⟩

theorem reps_ints (k : IntKind) (xs : List Int) : Reps (fun x cs => cs = [Value.int k x]) 1 xs (xs.map (Value.int k)) := by
  refine ⟨by simp, fun j p h => ?_⟩
  have hj := (List.getElem?_eq_some_iff.1 h).1
  show ((xs.map (Value.int k)).drop (j * 1)).take 1 = [Value.int k p]
  rw [Nat.mul_one, List.drop_eq_getElem_cons (by simpa using hj), List.take_succ_cons, List.take_zero, List.getElem_map]
  rw [List.getElem?_eq_getElem hj] at h
  rw [Option.some.inj h]

theorem rint {k : IntKind} {e : Nat} {w : World} {base : Nat} {ok : Nat → Prop} {v : Value} {xs : List Int} (h : w.ownsRow base e 1 v xs.length (xs.map (Value.int k))) (hk : ∀ g, v.ownBlock = some g → ok g) : Kd.R (Kd.int k) e w base ok v xs :=
  ⟨hk, _, h, reps_ints k xs⟩

def relax_Assemble.f (l0 : List S40) : Option (List Int × List Int × List Int × Int × Int × Int) :=
  if wfS l0 = true then some ((asm (l0.map toLine)).words, (asm (l0.map toLine)).kinds, (asm (l0.map toLine)).places, ((asm (l0.map toLine)).rounds : Int), ((asm (l0.map toLine)).line : Int), (asm (l0.map toLine)).err) else none

theorem relax_Assemble.calls (A0 : Option Addr) (c0 : Nat) (l0 : List (S40)) (r1 : List Int) (r2 : List Int) (r3 : List Int) (r4 : Int) (r5 : Int) (r6 : Int) (w : World) (hr0 : Kd.C k40 w A0 l0.length l0) (_hc0 : l0.length ≤ c0) (hLaid_ : Aside0 (Laid w)) (h : relax_Assemble.f l0 = some (r1, r2, r3, r4, r5, r6)) :
    Calls Tryd.prog 19 #[.slice A0 l0.length c0] w fun e w' => ∃ v0_ v1_ v2_ : Value, e = .returned (.tuple #[.agg #[v0_, v1_, v2_, .int .i64 r4], .int .i64 r5, .int .i64 r6]) ∧ Kd.R (Kd.int .u32) 38 w' w.heap.size (fun _ => True) v0_ r1 ∧ Kd.R (Kd.int .i64) 3 w' w.heap.size (fun k_ => some k_ ≠ (v2_ : Value).ownBlock) v1_ r2 ∧ Kd.R (Kd.int .i64) 3 w' w.heap.size (fun k_ => some k_ ≠ (v1_ : Value).ownBlock) v2_ r3 ∧ Below w.heap.size w w' := by
  unfold relax_Assemble.f at h
  by_cases hw : wfS l0 = true
  · rw [if_pos hw] at h
    simp only [Option.some.injEq, Prod.mk.injEq] at h
    obtain ⟨rfl, rfl, rfl, rfl, rfl, rfl⟩ := h
    refine (asm_any (l0.map toLine) _ w hLaid_.out (lines_of hr0) (wfS_all hw)).mono ?_
    rintro e w' ⟨wv, kv, pv, rfl, hat, hb⟩
    exact ⟨wv, kv, pv, rfl, rint hat.ow (fun _ _ => trivial), rint hat.ok (fun g hg e => hat.ne g hg e.symm), rint hat.op (fun g hg e => hat.ne g e.symm hg), hb⟩
  · rw [if_neg hw] at h
    cases h

end Go.Proofs.YtamimnaafiphcaaDoor.PR1S
