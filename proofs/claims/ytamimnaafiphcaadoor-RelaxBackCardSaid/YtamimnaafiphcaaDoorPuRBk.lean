/- The law RelaxBack, plainly: read back word by word, the words are the list. -/
import Derived.Test.YtamimnaafiphcaaDoorPuZ
import Derived.Test.YtamimnaafiphcaaDoorPuX2
import Derived.Test.YtamimnaafiphcaaDoorPuX4
import Derived.Test.YtamimnaafiphcaaDoorPR1Cd33
import Derived.Test.YtamimnaafiphcaaDoorPR1Cx32
set_option linter.unusedVariables false
set_option linter.unusedSimpArgs false
namespace Go.Proofs.YtamimnaafiphcaaDoor.PR1C
open Go.RowKit Go.Proofs.YtamimnaafiphcaaDoorW.PrintWords Go.Proofs.YtamimnaafiphcaaDoorW.PrintLast Go.Proofs.YtamimnaafiphcaaDoorW.PrintMore

/-- From a place on these words stand, of these kinds. -/
structure Stands (W K : List Int) (p : Int) (wl kl : List Int) : Prop where
  pos : 0 ≤ p
  lens : W.length = K.length
  room : p + wl.length ≤ W.length
  w : ∀ t, t < wl.length → W.getD (p.toNat + t) 0 = wl.getD t 0
  k : ∀ t, t < wl.length → K.getD (p.toNat + t) 0 = kl.getD t 0

theorem Stands.code {W K P : List Int} {R p : Int} {wl kl : List Int} (h : Stands W K p wl kl) (t : Nat) (ht : t < wl.length) {op a b c : Int} (hm : mayR op a b c = true) (hw : wl.getD t 0 = word op a b c) (hk : kl.getD t 0 = 1) :
    Ev (fun k => switchbacklaw17_code.f k W K P R (p + t)) (op, a, b, c, true) := by
  have h0 := h.pos
  have h1 := h.room
  have e : (p + t).toNat = p.toNat + t := by omega
  exact code_at hm (by omega) (by omega) h.lens (by rw [e, h.k t ht]; exact hk) (by rw [e, h.w t ht]; exact hw)

theorem Stands.data {W K P : List Int} {R p : Int} {wl kl : List Int} (h : Stands W K p wl kl) (t : Nat) (ht : t < wl.length) {kind n : Int} (h0 : 0 ≤ n) (h1 : n < 4294967296) (hw : wl.getD t 0 = n) (hk : kl.getD t 0 = kind) :
    switchbacklaw17_data.f W K P R (p + t) kind n = some true := by
  have p0 := h.pos
  have p1 := h.room
  have hl := h.lens
  have e : (p + t).toNat = p.toNat + t := by omega
  unfold switchbacklaw17_data.f
  rw [if_pos (by omega), if_pos (by omega), if_pos (by omega), if_pos (by omega), rd_int, rd_int, e, h.k t ht, h.w t ht, if_pos hk, if_pos (by omega), Int.emod_eq_of_lt h0 h1, hw]
  simp

theorem labs_uniq : ∀ (ls : List Line) (i j : Nat), (labs ls).Nodup → i < j → j < ls.length → (ls.getD i default).op = 0 → (ls.getD j default).op = 0 → (ls.getD i default).label ≠ (ls.getD j default).label
  | [], i, j, _, _, h, _, _ => absurd h (Nat.not_lt_zero _)
  | l :: r, 0, j, hn, hij, hj, h0, h1 => by
    obtain ⟨j, rfl⟩ : ∃ m, j = m + 1 := ⟨j - 1, by omega⟩
    have hl : l.op = 0 := h0
    rw [labs_cons_yes hl] at hn
    have hm : (r.getD j default).label ∈ labs r := labs_mem.2 ⟨r.getD j default, getD_mem (by simpa using hj), h1, rfl⟩
    intro e
    have e' : l.label = (r.getD j default).label := e
    exact (List.nodup_cons.1 hn).1 (e' ▸ hm)
  | l :: r, i + 1, j, hn, hij, hj, h0, h1 => by
    obtain ⟨j, rfl⟩ : ∃ m, j = m + 1 := ⟨j - 1, by omega⟩
    have hn' : (labs r).Nodup := by
      by_cases hl : l.op = 0
      · rw [labs_cons_yes hl] at hn; exact (List.nodup_cons.1 hn).2
      · rw [labs_cons_no hl] at hn; exact hn
    exact labs_uniq r i j hn' (by omega) (by simpa using hj) h0 h1

section
variable (l : List S40) (hw : wfS l = true) (T : Takes (l.map toLine)) (long : List Bool)
include hw T

theorem at_f (x : Int) (hx : x ∈ labs (l.map toLine)) (W K : List Int) (R : Int) : ∃ v, fl (l.map toLine) long x = some v ∧ (0 ≤ v ∧ v ≤ 100000000) ∧ Ev (fun k => switchbacklaw17_at.f k l W K ((List.range l.length).map (pl (l.map toLine) long)) R x) v := by
  have hsm := T.small
  rw [List.length_map] at hsm
  have hsz : Sized (l.map toLine) := ⟨T.small, fun m hm => fits_list m (T.fits m hm).2.2, fun m hm => by
    obtain ⟨y, hy, rfl⟩ := List.mem_map.1 hm
    exact (wfS_all hw _ (List.mem_map.2 ⟨y, hy, rfl⟩)).1⟩
  obtain ⟨m, hm, h0, h1⟩ := labs_mem.1 hx
  obtain ⟨j0, hj0, e0⟩ := List.getElem_of_mem hm
  have e2 : (l.map toLine).getD j0 default = m := by rw [List.getD_eq_getElem?_getD, List.getElem?_eq_getElem hj0]; exact e0
  obtain ⟨j, hj, hjl, hat⟩ := mp_idx (l.map toLine) x (l.map toLine).length ⟨j0, hj0, by rw [e2]; exact h0, by rw [e2]; exact h1⟩
  rw [List.length_map] at hj
  have hr := pl_range (l.map toLine) long hsz j
  refine ⟨pl (l.map toLine) long j, hat long, ⟨hr.1, by omega⟩, ?_⟩
  have go : ∀ (d i : Nat), j - i = d → i ≤ j → Ev (fun k => switchbacklaw17_at.l0 k l x (i : Int) W K ((List.range l.length).map (pl (l.map toLine) long)) R) (pl (l.map toLine) long j) := by
    intro d
    induction d with
    | zero =>
      intro i hd hi
      obtain rfl : i = j := by omega
      have hg : (l.map toLine).getD i default = toLine l[i] := by simp [List.getD, hj]
      rw [hg] at hjl
      replace hjl : l[i].f0 = 0 ∧ l[i].f5 = x := hjl
      refine Ev.step (f := fun _ => some (pl (l.map toLine) long i)) (fun k => ?_) (Ev.now _)
      simp only [switchbacklaw17_at.l0]
      rw [if_pos (by omega), if_pos (by omega), rdAt l i hj, if_pos hjl.1, if_pos hjl.2, if_pos (by rw [List.length_map, List.length_range]; omega), rd_int, Int.toNat_natCast]
      simp [List.getD, hj]
    | succ d ih =>
      intro i hd hi
      have hlt : i < l.length := by omega
      have hg : (l.map toLine).getD i default = toLine l[i] := by simp [List.getD, hlt]
      have hne : l[i].f0 = 0 → ¬ l[i].f5 = x := fun h0 h5 => by
        have := labs_uniq (l.map toLine) i j T.nodup (by omega) (by rw [List.length_map]; exact hj) (by rw [hg]; exact h0) hjl.1
        rw [hg] at this
        exact this (h5.trans hjl.2.symm)
      refine Ev.step (fun k => ?_) (ih (i + 1) (by omega) (by omega))
      simp only [switchbacklaw17_at.l0]
      rw [if_pos (by omega), if_pos (by omega), rdAt l i hlt, wrap_i64 (x := (i : Int) + 1) (by omega) (by omega)]
      by_cases h0 : l[i].f0 = 0
      · rw [if_pos h0, if_neg (hne h0)]; rfl
      · rw [if_neg h0]; rfl
  unfold switchbacklaw17_at.f
  exact go j 0 (by omega) (by omega)
end

theorem other_f {op : Int} (h : isBr op = true) : switchbackref17_Other.f op = some (otherOp op) := by
  have hr : 30 ≤ op ∧ op ≤ 39 := by unfold isBr within at h; simpa using h
  have : op = 30 ∨ op = 31 ∨ op = 32 ∨ op = 33 ∨ op = 34 ∨ op = 35 ∨ op = 36 ∨ op = 37 ∨ op = 38 ∨ op = 39 := by omega
  rcases this with rfl | rfl | rfl | rfl | rfl | rfl | rfl | rfl | rfl | rfl <;> rfl

theorem other_ne (op : Int) : ¬ otherOp op = op := by unfold otherOp; split <;> omega

theorem may41 : mayR 41 0 0 0 = true := by decide
theorem enc41 : (enc 41 0 0 0).1 = word 41 0 0 0 := by rw [enc_of may41]

end Go.Proofs.YtamimnaafiphcaaDoor.PR1C
