/- Texts joined: LiO3 LiLaidS. -/
import Derived.Test.YtlhgfhmdhmgmpaaGreatDoorRl
import Derived.Test.YtlhgfhmdhmgmpaaGreatDoorCards
import Derived.WalkKit
import Derived.OpenShut
import Derived.Deep.Slices
import Derived.ChangeArms
import Derived.Test.YtlhgfhmdhmgmpaaGreatDoorLiLaid
import Derived.Test.YtlhgfhmdhmgmpaaGreatDoorLsZ
set_option linter.unusedVariables false
set_option linter.unusedSimpArgs false
namespace Go.Proofs.YtlhgfhmdhmgmpaaGreatDoor
open Go.RowKit Go.Proofs.YtlhgfhmdhmgmpaaGreatDoorW.PrintWords Go.ChangeShapes Go.WideShapes

variable {H : Type} {enc : TypeId × Value → H} {W : World} {base : Nat} {spare : Nat → Bool} {held : Bool}

theorem bulk_len : ∀ (l : List (DataW H)), l.length ≤ Rows.uptoBulkAll l
  | [] => Nat.zero_le _
  | d :: r => by
    have := bulk_len r
    have h1 : 1 ≤ Rows.uptoBulk d := by
      cases d <;> first | (simp [Rows.uptoBulk]; done) | (rename_i l; cases l <;> simp [Rows.uptoBulk])
    rw [List.length_cons, Rows.uptoBulkAll]
    omega

theorem open_numsB {k : IntKind} {t u : TypeId} (ht : Tryz.prog.underlying t = some (.slice u)) (hu : Tryz.prog.underlying u = some (.int k)) (hc : Tryz.prog.cellsOf u = 1) {fuel : Nat} {cs : List Value} {x : DataW H × List MemPlace} (h : DataW.trod enc Tryz.prog W base spare held fuel t cs = some x) :
    ∃ (xs : List Int) (A : Option Addr) (c : Nat), cs = [.slice A xs.length c] ∧ Kd.C (Kd.int k) W A xs.length xs ∧ (∀ y ∈ xs, (Lit.int k y).wf = true) ∧ xs.length ≤ c ∧ xs.length ≤ Rows.uptoBulk x.1 := by
  rcases Deep.open_slice1 ht hc h with ⟨rfl, _⟩ | ⟨a, len, cap, m, n, V, D, Pl, rfl, hb, hl, hm, hmm, rfl, hx⟩
  · exact ⟨[], none, 0, rfl, Kd.C_nil (Kd.int k) W, by simp, Nat.le_refl _, Nat.zero_le _⟩
  · have hml : len ≤ m := by rw [hmm]; split <;> omega
    have hv : ∀ i, i < len → ∃ z, V i = .int k z ∧ (Lit.int k z).wf = true := fun i hi => by
      obtain ⟨z, e, _, hw⟩ := DataW.trod_int hu (hx i (by omega)).2
      exact ⟨z, by simpa using e, hw⟩
    obtain ⟨f, hf⟩ : ∃ f : Nat → Int, ∀ i, i < len → V i = .int k (f i) ∧ (Lit.int k (f i)).wf = true :=
      ⟨fun i => if hi : i < len then (hv i hi).choose else 0, fun i hi => by simp only [hi, dif_pos]; exact (hv i hi).choose_spec⟩
    refine ⟨(List.range len).map f, some a, cap, by simp, ?_, fun y hy => ?_, by simpa using hl, ?_⟩
    · refine ⟨rfl, by simp; unfold maxLen at hm; omega, fun _ => ⟨a, rfl, fun j p hj => ⟨[.int k p], rfl, rfl, fun i u hu => ?_⟩⟩⟩
      have hj' : j < len := by have := (List.getElem?_eq_some_iff.1 hj).1; simpa using this
      have hp : p = f j := by simp [hj'] at hj; exact hj.symm
      have hi : i = 0 := by have := (List.getElem?_eq_some_iff.1 hu).1; simpa using this
      subst hi
      cases hu
      rw [show j * (Kd.int k).sz + 0 = j from by show j * 1 + 0 = j; omega, hp, ← (hf j hj').1]
      exact (hx j (by omega)).1
    · obtain ⟨i, hi, rfl⟩ := List.mem_map.1 hy
      exact (hf i (List.mem_range.1 hi)).2
    · show _ ≤ Rows.uptoBulk (.slice ((List.range len).map D) ((List.range (m - len)).map fun j => D (len + j)))
      have := bulk_len ((List.range len).map D)
      rw [List.length_map, List.length_range] at this
      rw [Rows.uptoBulk, List.length_map, List.length_range]
      omega

theorem open_intsB {fuel : Nat} {cs : List Value} {x : DataW H × List MemPlace} (h : DataW.trod enc Tryz.prog W base spare held fuel 35 cs = some x) :
    ∃ (xs : List Int) (A : Option Addr) (c : Nat), cs = [.slice A xs.length c] ∧ Kd.C (Kd.int .i64) W A xs.length xs ∧ (∀ y ∈ xs, (Lit.int .i64 y).wf = true) ∧ xs.length ≤ c ∧ xs.length ≤ Rows.uptoBulk x.1 :=
  open_numsB Tryz.underlying35 Tryz.underlying3 (by kernel_rfl) h

theorem open_u32sB {fuel : Nat} {cs : List Value} {x : DataW H × List MemPlace} (h : DataW.trod enc Tryz.prog W base spare held fuel 34 cs = some x) :
    ∃ (xs : List Int) (A : Option Addr) (c : Nat), cs = [.slice A xs.length c] ∧ Kd.C (Kd.int .u32) W A xs.length xs ∧ (∀ y ∈ xs, (Lit.int .u32 y).wf = true) ∧ xs.length ≤ c ∧ xs.length ≤ Rows.uptoBulk x.1 :=
  open_numsB Tryz.underlying34 Tryz.underlying47 (by kernel_rfl) h

end Go.Proofs.YtlhgfhmdhmgmpaaGreatDoor

namespace Go.Proofs.YtlhgfhmdhmgmpaaGreatDoor.listLaid
open Go.ChangeShapes Go.WideShapes Go.ChangeAt Go.RowKit Go.Joins Go.Shelf

def dbTab : List Int := [0, 1, 56, 2, 57, 49, 28, 3, 61, 58, 42, 50, 38, 29, 17, 4, 62, 47, 59, 36, 45, 43, 51, 22, 53, 39, 33, 30, 24, 18, 12, 5, 63, 55, 48, 27, 60, 41, 37, 16, 46, 35, 44, 21, 52, 32, 23, 11, 54, 26, 40, 15, 34, 20, 31, 10, 25, 14, 19, 9, 13, 8, 7, 6]
theorem gDb : Tryz.prog.globalNamed "math/bits.deBruijn64tab" = some 6 := by kernel_rfl
theorem gDbType : (Tryz.prog.globals[6]?).map (·.type) = some 189 := by kernel_rfl
theorem cellsDb : Tryz.prog.cellsOf 189 = 64 := by kernel_rfl
set_option maxRecDepth 100000 in
theorem slaid_of {W : World} (h0 : laidMetH Tryz.prog laidL W) : SLaid W := by
  have h : laidMet Tryz.prog laidL W := by rw [← MakeChecks.laidMetH_plain Tryz.prog laidL W (by kernel_rfl)]; exact h0
  have hd : Lib.TabIs Tryz.prog W "math/bits.deBruijn64tab" .u8 dbTab := Lib.tabIs_of_head gDb gDbType Tryz.underlying189 Tryz.underlying5 cellsByte cellsDb h.tail
  exact ⟨laid_of h0, hd.cell gDb 15 (by decide)⟩
end Go.Proofs.YtlhgfhmdhmgmpaaGreatDoor.listLaid
