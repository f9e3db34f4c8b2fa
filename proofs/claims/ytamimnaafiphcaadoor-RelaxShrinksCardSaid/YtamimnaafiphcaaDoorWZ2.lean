/- Texts joined: WFootNe WAt WEqStruct WRepsOne. -/
import Derived.Test.YtamimnaafiphcaaDoorWN
import Derived.Test.YtamimnaafiphcaaDoorWWords
import Derived.Laws.StructEq
set_option linter.unusedVariables false
set_option linter.unusedSimpArgs false
-- PRINTED BY print.sh 35421559b90ae4d0a3588c463048766b98c2df88dd9212a6774a882060cdf62d: not written by this session
/-! ### 52. A row that stays read whatever happens to a block (a set of blocks) doesn't lie there -/
namespace Go.Proofs.YtamimnaafiphcaaDoorW.PrintWords
open Go.RowKit
namespace Kd
/-- A block is emptied, all else stands. -/
theorem emptied_at (W : World) (g : Nat) : ∃ W' : World, W'.heap.size = W.heap.size ∧ (∀ k, k ≠ g → W'.heap[k]? = W.heap[k]?) ∧ ∀ a : Addr, a.block = g → W'.cell? a = none := by
  refine ⟨{ W with heap := W.heap.setIfInBounds g (.cells #[] 0) }, by simp, fun k hk => by simp [Ne.symm hk], fun a ha => ?_⟩
  subst ha
  by_cases hlt : a.block < W.heap.size
  · simp [World.cell?, hlt]
  · simp [World.cell?, hlt]
section
variable {α : Type} {d : Kd α} {W : World} {g n : Nat} {S ok : Nat → Prop} {A : Option Addr} {ad : Addr} {xs : List α}
theorem C_not_empty (h : d.C W (some ad) n xs) (hn : 0 < n) (hs : 0 < d.sz) : W.cell? ad ≠ none := by
  obtain ⟨ad', he, hc⟩ := h.2.2 hn
  injection he with he
  subst he
  obtain ⟨c, hcl, _, hcell⟩ := hc 0 _ (List.getElem?_eq_getElem (by rw [h.1]; exact hn))
  have h1 := hcell 0 _ (List.getElem?_eq_getElem (by omega))
  rw [Nat.zero_mul, Nat.zero_add, Addr.add_zero'] at h1
  rw [h1]
  exact Option.some_ne_none _
/-- Beside a state: the row is none of the state's block. -/
theorem foot_ne (h : ∀ W', KeepBut W W' g none → d.C W' (some ad) n xs) (hn : 0 < n) (hs : 0 < d.sz) : ad.block ≠ g := by
  intro he
  obtain ⟨W', h1, h2, h3⟩ := emptied_at W g
  exact C_not_empty (h W' ⟨Nat.le_of_eq h1.symm, fun i _ hi _ => h2 i hi⟩) hn hs (h3 ad he)
/-- Beside rows that are written: none of theirs. -/
theorem foot_neS (h : ∀ W', Kept W W' S → d.C W' (some ad) n xs) (hn : 0 < n) (hs : 0 < d.sz) : ¬ S ad.block := by
  intro he
  obtain ⟨W', h1, h2, h3⟩ := emptied_at W ad.block
  exact C_not_empty (h W' ⟨Nat.le_of_eq h1.symm, fun i _ hi => h2 i (fun e => hi (e ▸ he))⟩) hn hs (h3 ad rfl)
/-- It lies in a block that stands. -/
theorem C_lt (h : d.C W (some ad) n xs) (hn : 0 < n) (hs : 0 < d.sz) : ad.block < W.heap.size := by
  cases hc : W.cell? ad with
  | none => exact absurd hc (C_not_empty h hn hs)
  | some v => exact World.block_lt_of_cell? W ad hc
theorem foot_lt (h : ∀ W', KeepBut W W' g none → d.C W' (some ad) n xs) (hn : 0 < n) (hs : 0 < d.sz) : ad.block < W.heap.size := C_lt (h W (KeepBut.refl W g none)) hn hs
theorem foot_ltS (h : ∀ W', Kept W W' S → d.C W' (some ad) n xs) (hn : 0 < n) (hs : 0 < d.sz) : ad.block < W.heap.size := C_lt (h W (Kept.refl W S)) hn hs
/-- What is read with its footprint lies in it. -/
theorem F_in (h : F d W ok A n xs) {ad : Addr} (hA : A = some ad) (hn : 0 < n) (hs : 0 < d.sz) : ok ad.block := by
  subst hA
  have hl := F_len h
  cases xs with
  | nil => simp at hl; omega
  | cons x r =>
    obtain ⟨ad', c, he, _, _, _, hin⟩ := F_get h x 0 (by omega) (by omega)
    injection he with he
    subst he
    exact hin hs
end
end Kd
end Go.Proofs.YtamimnaafiphcaaDoorW.PrintWords

-- PRINTED BY print.sh 35421559b90ae4d0a3588c463048766b98c2df88dd9212a6774a882060cdf62d: not written by this session
/-! ### 54. Behind orders that were drawn quietly: the same facts at the world's new name; a flat row's foot -/
namespace Go.Proofs.YtamimnaafiphcaaDoorW.PrintWords
open Go.RowKit
section
variable {w w' u : World} {m B g : Nat} {o : Obj} {row : Option Nat} {S : Nat → Prop} {a : Addr} {v : Value}
theorem below_at (hq : w.drewN m = w') (h : Below B u w) : Below B u w' := by subst hq; exact pw_below_drewN h m
theorem keep_at (hq : w.drewN m = w') (h : KeepBut u w g row) : KeepBut u w' g row := by subst hq; exact keep_drewN h m
theorem kept_at (hq : w.drewN m = w') (h : Kept u w S) : Kept u w' S := by subst hq; exact Kept.drewN h m
theorem moved_at (hq : w.drewN m = w') (h : u.heap.size ≤ w.heap.size) : u.heap.size ≤ w'.heap.size := by subst hq; exact h
theorem blk_at (hq : w.drewN m = w') (h : w.heap[g]? = some o) : w'.heap[g]? = some o := by subst hq; exact h
theorem cell_at (hq : w.drewN m = w') (h : w.cell? a = some v) : w'.cell? a = some v := by subst hq; exact h
end
namespace Kd
section
variable {α : Type} {d : Kd α} {e base n m : Nat} {ok : Nat → Prop} {w w' : World} {v : Value} {A : Option Addr} {xs : List α}
theorem R_at (hq : w.drewN m = w') (h : d.R e w base ok v xs) : d.R e w' base ok v xs := by subst hq; exact R_drewN h m
theorem Q_at (hq : w.drewN m = w') (h : d.Q e w base ok v xs) : d.Q e w' base ok v xs := by subst hq; exact Q_drewN h m
theorem S_at (hq : w.drewN m = w') (h : Kd.S d e w base ok v xs) : Kd.S d e w' base ok v xs := by subst hq; exact S_drewN h m
theorem N_at (hq : w.drewN m = w') (h : N d e w base ok v xs) : N d e w' base ok v xs := by subst hq; exact N_drewN h m
theorem C_at (hq : w.drewN m = w') (h : d.C w A n xs) : d.C w' A n xs := by subst hq; exact C_drewN h m
theorem F_at (hq : w.drewN m = w') (h : F d w ok A n xs) : F d w' ok A n xs := by subst hq; exact F_drewN h m
/-- A flat row (its elements are told by no world) that lies elsewhere than the state's block stays read whatever happens to that block. hd: 'fun h => h' for whole numbers, bools, strings and structs of such. -/
theorem C_foot_ne {g : Nat} (hd : ∀ {W W' : World} {x : α} {cs : List Value}, d.K W x cs → d.K W' x cs) (h : d.C w A n xs) (hf : ∀ ad, A = some ad → 0 < n → ad.block ≠ g) : ∀ W', KeepBut w W' g none → d.C W' A n xs := by
  intro W' hk
  refine ⟨h.1, h.2.1, fun hn => ?_⟩
  obtain ⟨ad, he, hc⟩ := h.2.2 hn
  refine ⟨ad, he, fun j p hj => ?_⟩
  obtain ⟨cs, h1, h2, h3⟩ := hc j p hj
  exact ⟨cs, h1, hd h2, fun i u hu => keep_cell hk (h3 i u hu) (by rw [add_block]; exact hf ad he hn)⟩
/-- The same beside rows that are written. -/
theorem C_foot_neS {S : Nat → Prop} (hd : ∀ {W W' : World} {x : α} {cs : List Value}, d.K W x cs → d.K W' x cs) (h : d.C w A n xs) (hf : ∀ ad, A = some ad → 0 < n → ¬ S ad.block) : ∀ W', Kept w W' S → d.C W' A n xs := by
  intro W' hk
  refine ⟨h.1, h.2.1, fun hn => ?_⟩
  obtain ⟨ad, he, hc⟩ := h.2.2 hn
  refine ⟨ad, he, fun j p hj => ?_⟩
  obtain ⟨cs, h1, h2, h3⟩ := hc j p hj
  exact ⟨cs, h1, hd h2, fun i u hu => cell_kept (h3 i u hu) hk (by rw [add_block]; exact hf ad he hn)⟩
end
end Kd
end Go.Proofs.YtamimnaafiphcaaDoorW.PrintWords

-- PRINTED BY print.sh 35421559b90ae4d0a3588c463048766b98c2df88dd9212a6774a882060cdf62d: not written by this session
/-! ### 53. '==' of structs as_ one Bool -/
namespace Go.Proofs.YtamimnaafiphcaaDoorW.PrintWords
open Go.RowKit
section
variable {P : Program} {d : Nat} {xs ys : Array Value} {f : Field} {fs : List Field} {a b : Value} {r s : Bool} {w : World}
/-- The last field that counts. -/
theorem eqf_last (hn : (f.name == "_") = false) (ha : (part f.type xs f.offset).run P w = .ok a w) (hb : (part f.type ys f.offset).run P w = .ok b w) (he : (Op.equalIn d f.type a b).run P w = .ok r w) : (Op.eqFields d xs ys [f]).run P w = .ok r w := by
  have hn' : f.name ≠ "_" := by simpa using hn
  simp only [Op.eqFields, if_pos hn', Sem.run_bind, ha, hb, he, Result.andThen_ok]
  cases r <;> simp
theorem eqf_cons (hn : (f.name == "_") = false) (ha : (part f.type xs f.offset).run P w = .ok a w) (hb : (part f.type ys f.offset).run P w = .ok b w) (he : (Op.equalIn d f.type a b).run P w = .ok r w) (hr : (Op.eqFields d xs ys fs).run P w = .ok s w) : (Op.eqFields d xs ys (f :: fs)).run P w = .ok (r && s) w := by
  have hn' : f.name ≠ "_" := by simpa using hn
  rw [Op.eqFields]
  simp only [if_pos hn', Sem.run_bind, ha, hb, he, Result.andThen_ok]
  cases r
  · simp
  · simpa using hr
/-- The last that counts, behind it such as_ don't. -/
theorem eqf_end (hn : (f.name == "_") = false) (ha : (part f.type xs f.offset).run P w = .ok a w) (hb : (part f.type ys f.offset).run P w = .ok b w) (he : (Op.equalIn d f.type a b).run P w = .ok r w) (hr : (Op.eqFields d xs ys fs).run P w = .ok true w) : (Op.eqFields d xs ys (f :: fs)).run P w = .ok r w := by
  have h := eqf_cons hn ha hb he hr
  rwa [Bool.and_true] at h
/-- A field named _ doesn't count. -/
theorem eqf_skip (hn : (f.name == "_") = true) (hr : (Op.eqFields d xs ys fs).run P w = .ok s w) : (Op.eqFields d xs ys (f :: fs)).run P w = .ok s w := by
  have hn' : ¬ (f.name ≠ "_") := by simpa using hn
  rw [Op.eqFields, if_neg hn']
  exact hr
theorem eqf_nil : (Op.eqFields d xs ys []).run P w = .ok true w := by simp [Op.eqFields]
theorem eqA_of {t : TypeId} {fs : Array Field} (hu : P.underlying t = some (.struct fs)) (hp : P.stoodInHeld t = false) (h : (Op.eqFields d xs ys fs.toList).run P w = .ok r w) : (Op.equalIn (d + 1) t (.agg xs) (.agg ys)).run P w = .ok r w := by
  have hf : P.fieldsOf t = fs := by simp [Program.fieldsOf, hu]
  rw [run_equalIn_struct (P := P) w d t xs ys (by rw [hf]; exact hu) hp, hf]
  exact h
end
end Go.Proofs.YtamimnaafiphcaaDoorW.PrintWords

-- PRINTED BY print.sh 35421559b90ae4d0a3588c463048766b98c2df88dd9212a6774a882060cdf62d: not written by this session
/-! ### 55. Reps told from the front, no append: for rows of one-cell elements and of wider ones -/
namespace Go.Proofs.YtamimnaafiphcaaDoorW.PrintWords
/-- One cell an element. -/
theorem Reps.one {α : Type} {R : α → List Value → Prop} {ps : List α} {cs : List Value} {p : α} {v : Value} (hp : R p [v]) (h : Reps R 1 ps cs) : Reps R 1 (p :: ps) (v :: cs) := by
  refine ⟨by simp [h.1], fun j q hq => ?_⟩
  cases j with
  | zero =>
    simp only [List.getElem?_cons_zero, Option.some.injEq] at hq
    subst hq
    simpa using hp
  | succ j =>
    simp only [List.getElem?_cons_succ] at hq
    have h1 := h.2 j q hq
    simpa [Nat.mul_one] using h1
/-- More cells an element: told apart by the cells' list. -/
theorem Reps.front {α : Type} {R : α → List Value → Prop} {size : Nat} {ps : List α} {cs c all : List Value} {p : α} (hp : R p c) (hc : c.length = size) (h : Reps R size ps cs) (ha : c ++ cs = all) : Reps R size (p :: ps) all := by
  subst ha
  refine ⟨by rw [List.length_append, hc, h.1, List.length_cons, Nat.succ_mul, Nat.add_comm], fun j q hq => ?_⟩
  cases j with
  | zero =>
    simp only [List.getElem?_cons_zero, Option.some.injEq] at hq
    subst hq
    rw [Nat.zero_mul, List.drop_zero, List.take_append_of_le_length (by omega), List.take_of_length_le (by omega)]
    exact hp
  | succ j =>
    simp only [List.getElem?_cons_succ] at hq
    have h1 := h.2 j q hq
    rw [Nat.succ_mul, List.drop_append, List.drop_of_length_le (by rw [hc]; exact Nat.le_add_left _ _), List.nil_append, hc, Nat.add_sub_cancel]
    exact h1
theorem Reps.c2 {α : Type} {R : α → List Value → Prop} {ps : List α} {cs : List Value} {p : α} {va vb : Value} (hp : R p [va, vb]) (h : Reps R 2 ps cs) : Reps R 2 (p :: ps) (va :: vb :: cs) := Reps.front hp rfl h rfl
theorem Reps.c3 {α : Type} {R : α → List Value → Prop} {ps : List α} {cs : List Value} {p : α} {va vb vc : Value} (hp : R p [va, vb, vc]) (h : Reps R 3 ps cs) : Reps R 3 (p :: ps) (va :: vb :: vc :: cs) := Reps.front hp rfl h rfl
theorem Reps.c4 {α : Type} {R : α → List Value → Prop} {ps : List α} {cs : List Value} {p : α} {va vb vc vd : Value} (hp : R p [va, vb, vc, vd]) (h : Reps R 4 ps cs) : Reps R 4 (p :: ps) (va :: vb :: vc :: vd :: cs) := Reps.front hp rfl h rfl
theorem Reps.c5 {α : Type} {R : α → List Value → Prop} {ps : List α} {cs : List Value} {p : α} {va vb vc vd ve : Value} (hp : R p [va, vb, vc, vd, ve]) (h : Reps R 5 ps cs) : Reps R 5 (p :: ps) (va :: vb :: vc :: vd :: ve :: cs) := Reps.front hp rfl h rfl
theorem Reps.c6 {α : Type} {R : α → List Value → Prop} {ps : List α} {cs : List Value} {p : α} {va vb vc vd ve vf : Value} (hp : R p [va, vb, vc, vd, ve, vf]) (h : Reps R 6 ps cs) : Reps R 6 (p :: ps) (va :: vb :: vc :: vd :: ve :: vf :: cs) := Reps.front hp rfl h rfl
theorem Reps.c7 {α : Type} {R : α → List Value → Prop} {ps : List α} {cs : List Value} {p : α} {va vb vc vd ve vf vg : Value} (hp : R p [va, vb, vc, vd, ve, vf, vg]) (h : Reps R 7 ps cs) : Reps R 7 (p :: ps) (va :: vb :: vc :: vd :: ve :: vf :: vg :: cs) := Reps.front hp rfl h rfl
theorem Reps.c8 {α : Type} {R : α → List Value → Prop} {ps : List α} {cs : List Value} {p : α} {va vb vc vd ve vf vg vh : Value} (hp : R p [va, vb, vc, vd, ve, vf, vg, vh]) (h : Reps R 8 ps cs) : Reps R 8 (p :: ps) (va :: vb :: vc :: vd :: ve :: vf :: vg :: vh :: cs) := Reps.front hp rfl h rfl
theorem Reps.c9 {α : Type} {R : α → List Value → Prop} {ps : List α} {cs : List Value} {p : α} {va vb vc vd ve vf vg vh vi : Value} (hp : R p [va, vb, vc, vd, ve, vf, vg, vh, vi]) (h : Reps R 9 ps cs) : Reps R 9 (p :: ps) (va :: vb :: vc :: vd :: ve :: vf :: vg :: vh :: vi :: cs) := Reps.front hp rfl h rfl
theorem Reps.c10 {α : Type} {R : α → List Value → Prop} {ps : List α} {cs : List Value} {p : α} {va vb vc vd ve vf vg vh vi vj : Value} (hp : R p [va, vb, vc, vd, ve, vf, vg, vh, vi, vj]) (h : Reps R 10 ps cs) : Reps R 10 (p :: ps) (va :: vb :: vc :: vd :: ve :: vf :: vg :: vh :: vi :: vj :: cs) := Reps.front hp rfl h rfl
end Go.Proofs.YtamimnaafiphcaaDoorW.PrintWords
