/- Texts joined: LiA LiB LiC LiD LiE LiF LiH. -/
import Derived.Test.YtlhgfhmdhmgmpaaGreatDoorRl
import Derived.Test.YtlhgfhmdhmgmpaaGreatDoorEncB
import Derived.Test.YtlhgfhmdhmgmpaaGreatDoorSh
import Derived.Lib.SmallJoins
import Derived.BigRegion
import Derived.RegionTactic
import Derived.Lib.ItoaMem
import Derived.Maps.AppendAt
import Derived.Deep.RegionHeld3
import Derived.Deep.RegionLaw
import Derived.Outline
set_option linter.unusedVariables false
set_option linter.unusedSimpArgs false
namespace Go.Proofs.YtlhgfhmdhmgmpaaGreatDoor
open Go.RowKit

/-- What stands behind a name. -/
inductive Part where
  | reg (o : Nat)
  | num
  | word
  | place
  | places
  deriving DecidableEq

def Part.off : Part → Nat
  | .reg o => o
  | .num => 3
  | .word => 4
  | .place => 5
  | .places => 6

def Part.ty : Part → TypeId
  | .reg _ => 120
  | .num => 121
  | .word => 89
  | .place => 92
  | .places => 95

/-- A part as an interface's value: a pointer into the line at block b. -/
def pv (b : Nat) (p : Part) : Value := .iface p.ty (.agg #[.pointer (some ⟨b, p.off, none⟩)])

def partsP (op : Int) : List Part :=
  if op = 1 then [.reg 1, .num]
  else if op = 2 then [.reg 1, .word]
  else if op = 42 then [.reg 1, .places]
  else if op = 45 ∨ op = 46 ∨ op = 47 then [.reg 1]
  else if op = 4 ∨ op = 27 ∨ op = 28 then [.reg 1, .reg 2, .num]
  else if 5 ≤ op ∧ op ≤ 23 then [.reg 1, .reg 2, .reg 3]
  else if 30 ≤ op ∧ op ≤ 39 then [.reg 1, .reg 2, .place]
  else if op = 40 ∨ op = 41 ∨ op = 43 then [.place]
  else if op = 44 then []
  else if op = 48 then [.num]
  else [.reg 1, .reg 2]

/-- What the walks want of the package's variables. -/
structure LLaid (w : World) : Prop where
  forms : Laid w
  pow : Lib.TabIs Tryz.prog w "internal/strconv.uint64pow10" .u64 Lib.pow10Tab
  spc : Lib.TabIs Tryz.prog w "strings.asciiSpace" .u8 Lib.asciiSpaceTab
  big : 6 < w.heap.size
  es : ∃ v, w.cell? ⟨7, 0, none⟩ = some v ∧ (v = .nilIface ∨ ∃ te pe, v = .iface te pe)
  er : ∃ v, w.cell? ⟨8, 0, none⟩ = some v ∧ (v = .nilIface ∨ ∃ te pe, v = .iface te pe)

theorem gPow : Tryz.prog.globalNamed "internal/strconv.uint64pow10" = some 4 := by kernel_rfl
theorem gSpc : Tryz.prog.globalNamed "strings.asciiSpace" = some 0 := by kernel_rfl

theorem LLaid.below {w w' : World} (h : LLaid w) (hb : Below w.heap.size w w') : LLaid w' := by
  obtain ⟨s, hs, hs2⟩ := h.es
  obtain ⟨r, hr, hr2⟩ := h.er
  exact ⟨h.forms.below hb, Go.Joins.var_stays gPow h.pow hb (Nat.le_refl _), Go.Joins.var_stays gSpc h.spc hb (Nat.le_refl _), Nat.lt_of_lt_of_le h.big hb.size, ⟨s, kp hb hs, hs2⟩, ⟨r, kp hb hr, hr2⟩⟩

end Go.Proofs.YtlhgfhmdhmgmpaaGreatDoor

set_option linter.unusedVariables false
set_option linter.unusedSimpArgs false
namespace Go.Proofs.YtlhgfhmdhmgmpaaGreatDoor
open Go.RowKit

/-- What region 1 of parts leaves: three variables, each a pointer into the line. -/
def PV (b : Nat) (w : World) (t3 t4 t5 : Value) (wx : World) : Prop :=
  ∃ x y z : Nat, t3 = .pointer (some ⟨x, 0, none⟩) ∧ t4 = .pointer (some ⟨y, 0, none⟩) ∧ t5 = .pointer (some ⟨z, 0, none⟩) ∧
    wx.cell? ⟨x, 0, none⟩ = some (.pointer (some ⟨b, 1, none⟩)) ∧ wx.cell? ⟨y, 0, none⟩ = some (.pointer (some ⟨b, 2, none⟩)) ∧ wx.cell? ⟨z, 0, none⟩ = some (.pointer (some ⟨b, 3, none⟩)) ∧ Below w.heap.size w wx

/-- What parts answers: a slice of these parts, in a new block. -/
def PR (ps : List Part) (b : Nat) (w : World) (e : Ending) (w' : World) : Prop :=
  ∃ A c, e = .returned (.slice A ps.length c) ∧ (∀ i p, ps[i]? = some p → ∃ g, A = some ⟨g, 0, none⟩ ∧ w.heap.size ≤ g ∧ w'.cell? ⟨g, i, none⟩ = some (pv b p)) ∧ Below w.heap.size w w'

theorem PR_mk {ps : List Part} {b g : Nat} {w w2 : World} {n : Nat} (hn : n = ps.length) (hc : w2.heap[g]? = some (.cells (ps.map (pv b)).toArray 20 (0, 0))) (hg : w.heap.size ≤ g) (hb : Below w.heap.size w w2) :
    PR ps b w (.returned (.slice (some ⟨g, 0, none⟩) n n)) w2 := by
  subst hn
  refine ⟨_, _, rfl, fun i p hp => ⟨_, rfl, hg, ?_⟩, hb⟩
  rw [Go.Joins.cell_of_block hc]
  simp [hp]

theorem PR_nil {b : Nat} {w w2 : World} (hb : Below w.heap.size w w2) : PR [] b w (.returned (.slice none 0 0)) w2 := ⟨_, _, rfl, fun i p hp => by simp at hp, hb⟩

theorem knA {w : World} {cs : Array Value} {t : TypeId} {v : Value} {g : Nat} (hg : g = w.heap.size) (i : Nat) (h : cs[i]? = some v) : (w.alloc (.cells cs t)).cell? ⟨g, i, none⟩ = some v := by
  subst hg
  exact kn i h

theorem drew_blk {w : World} {g : Nat} {o : Obj} (h : w.heap[g]? = some o) : w.drew.heap[g]? = some o := h

set_option maxHeartbeats 2000000 in
set_option maxRecDepth 100000 in
theorem parts_any (b : Nat) (op : Int) (w : World) (hc : w.cell? ⟨b, 0, none⟩ = some (.int .i64 op)) :
    Calls Tryz.prog 46 #[.pointer (some ⟨b, 0, none⟩)] w (PR (partsP op) b w) := by
  go_enter Tryz.func46, Tryz.ntmps46
  go_upto_region 1 with fail
  go_cut [3, 4, 5] from 7 to 18 (fun t3 t4 t5 wx => PV b w t3 t4 t5 wx)
  case first =>
    go_region
    all_goals go_wp2_with fail
    all_goals go_meet
    all_goals exact ⟨_, _, _, rfl, rfl, rfl, by simp only [World.cell?_drew]; first | exact knA (by simp) 0 rfl | exact ka _ (knA (by simp) 0 rfl) | exact ka _ (ka _ (knA (by simp) 0 rfl)), by simp only [World.cell?_drew]; first | exact knA (by simp) 0 rfl | exact ka _ (knA (by simp) 0 rfl) | exact ka _ (ka _ (knA (by simp) 0 rfl)), by simp only [World.cell?_drew]; first | exact knA (by simp) 0 rfl | exact ka _ (knA (by simp) 0 rfl) | exact ka _ (ka _ (knA (by simp) 0 rfl)), by repeat (first | exact Below.refl _ _ | (refine Below.alloc ?_ (by simp; try omega) _) | refine Below.drew ?_)⟩
  case rest =>
    obtain ⟨x, y, z, rfl, rfl, rfl, hx, hy, hz, hb⟩ := hcut
    have hc' := kp hb hc
    have HB := Lib.hid hb
    have HC := Lib.hid hc
    clear hb hc
    by_cases q0 : op = 1
    · subst q0
      have e : partsP 1 = [.reg 1, .num] := by decide
      have HE := Lib.hid e
      clear e
      go_wp2_with fail
      go_ret
      rw [HE.out]
      exact PR_mk rfl (by first | exact heap_alloc_new wc _ | exact drew_blk (heap_alloc_new wc _)) HB.out.size (by repeat (first | exact HB.out | (refine Below.alloc ?_ HB.out.size _) | refine Below.drew ?_))
    by_cases q1 : op = 2
    · subst q1
      have e : partsP 2 = [.reg 1, .word] := by decide
      have HE := Lib.hid e
      clear e
      go_wp2_with fail
      go_region
      go_wp2_with fail
      go_ret
      rw [HE.out]
      exact PR_mk rfl (by first | exact heap_alloc_new wc _ | exact drew_blk (heap_alloc_new wc _)) HB.out.size (by repeat (first | exact HB.out | (refine Below.alloc ?_ HB.out.size _) | refine Below.drew ?_))
    by_cases q2 : op = 42
    · subst q2
      have e : partsP 42 = [.reg 1, .places] := by decide
      have HE := Lib.hid e
      clear e
      go_wp2_with fail
      go_region
      go_wp2_with fail
      go_ret
      rw [HE.out]
      exact PR_mk rfl (by first | exact heap_alloc_new wc _ | exact drew_blk (heap_alloc_new wc _)) HB.out.size (by repeat (first | exact HB.out | (refine Below.alloc ?_ HB.out.size _) | refine Below.drew ?_))
    by_cases q3 : op = 45
    · subst q3
      have e : partsP 45 = [.reg 1] := by decide
      have HE := Lib.hid e
      clear e
      go_wp2_with fail
      go_ret
      rw [HE.out]
      exact PR_mk rfl (by first | exact heap_alloc_new wc _ | exact drew_blk (heap_alloc_new wc _)) HB.out.size (by repeat (first | exact HB.out | (refine Below.alloc ?_ HB.out.size _) | refine Below.drew ?_))
    by_cases q4 : op = 46
    · subst q4
      have e : partsP 46 = [.reg 1] := by decide
      have HE := Lib.hid e
      clear e
      go_wp2_with fail
      go_ret
      rw [HE.out]
      exact PR_mk rfl (by first | exact heap_alloc_new wc _ | exact drew_blk (heap_alloc_new wc _)) HB.out.size (by repeat (first | exact HB.out | (refine Below.alloc ?_ HB.out.size _) | refine Below.drew ?_))
    by_cases q5 : op = 47
    · subst q5
      have e : partsP 47 = [.reg 1] := by decide
      have HE := Lib.hid e
      clear e
      go_wp2_with fail
      go_ret
      rw [HE.out]
      exact PR_mk rfl (by first | exact heap_alloc_new wc _ | exact drew_blk (heap_alloc_new wc _)) HB.out.size (by repeat (first | exact HB.out | (refine Below.alloc ?_ HB.out.size _) | refine Below.drew ?_))
    by_cases q6 : op = 4
    · subst q6
      have e : partsP 4 = [.reg 1, .reg 2, .num] := by decide
      have HE := Lib.hid e
      clear e
      go_wp2_with fail
      go_ret
      rw [HE.out]
      exact PR_mk rfl (by first | exact heap_alloc_new wc _ | exact drew_blk (heap_alloc_new wc _)) HB.out.size (by repeat (first | exact HB.out | (refine Below.alloc ?_ HB.out.size _) | refine Below.drew ?_))
    by_cases q7 : op = 27
    · subst q7
      have e : partsP 27 = [.reg 1, .reg 2, .num] := by decide
      have HE := Lib.hid e
      clear e
      go_wp2_with fail
      go_ret
      rw [HE.out]
      exact PR_mk rfl (by first | exact heap_alloc_new wc _ | exact drew_blk (heap_alloc_new wc _)) HB.out.size (by repeat (first | exact HB.out | (refine Below.alloc ?_ HB.out.size _) | refine Below.drew ?_))
    by_cases q8 : op = 28
    · subst q8
      have e : partsP 28 = [.reg 1, .reg 2, .num] := by decide
      have HE := Lib.hid e
      clear e
      go_wp2_with fail
      go_ret
      rw [HE.out]
      exact PR_mk rfl (by first | exact heap_alloc_new wc _ | exact drew_blk (heap_alloc_new wc _)) HB.out.size (by repeat (first | exact HB.out | (refine Below.alloc ?_ HB.out.size _) | refine Below.drew ?_))
    by_cases q9 : 5 ≤ op ∧ op ≤ 23
    · obtain ⟨qa, qb⟩ := q9
      have e : partsP op = [.reg 1, .reg 2, .reg 3] := by unfold partsP; rw [if_neg (by omega)]; rw [if_neg (by omega)]; rw [if_neg (by omega)]; rw [if_neg (by omega)]; rw [if_neg (by omega)]; rw [if_pos (by omega)]
      have HE := Lib.hid e
      clear e
      go_wp2_with fail
      go_region
      go_wp2_with fail
      go_ret
      rw [HE.out]
      exact PR_mk rfl (by first | exact heap_alloc_new wc _ | exact drew_blk (heap_alloc_new wc _)) HB.out.size (by repeat (first | exact HB.out | (refine Below.alloc ?_ HB.out.size _) | refine Below.drew ?_))
    by_cases q10 : 30 ≤ op ∧ op ≤ 39
    · obtain ⟨qa, qb⟩ := q10
      have e : partsP op = [.reg 1, .reg 2, .place] := by unfold partsP; rw [if_neg (by omega)]; rw [if_neg (by omega)]; rw [if_neg (by omega)]; rw [if_neg (by omega)]; rw [if_neg (by omega)]; rw [if_neg (by omega)]; rw [if_pos (by omega)]
      have HE := Lib.hid e
      clear e
      go_wp2_with fail
      go_region
      go_wp2_with fail
      go_ret
      rw [HE.out]
      exact PR_mk rfl (by first | exact heap_alloc_new wc _ | exact drew_blk (heap_alloc_new wc _)) HB.out.size (by repeat (first | exact HB.out | (refine Below.alloc ?_ HB.out.size _) | refine Below.drew ?_))
    by_cases q11 : op = 40
    · subst q11
      have e : partsP 40 = [.place] := by decide
      have HE := Lib.hid e
      clear e
      go_wp2_with fail
      go_ret
      rw [HE.out]
      exact PR_mk rfl (by first | exact heap_alloc_new wc _ | exact drew_blk (heap_alloc_new wc _)) HB.out.size (by repeat (first | exact HB.out | (refine Below.alloc ?_ HB.out.size _) | refine Below.drew ?_))
    by_cases q12 : op = 41
    · subst q12
      have e : partsP 41 = [.place] := by decide
      have HE := Lib.hid e
      clear e
      go_wp2_with fail
      go_ret
      rw [HE.out]
      exact PR_mk rfl (by first | exact heap_alloc_new wc _ | exact drew_blk (heap_alloc_new wc _)) HB.out.size (by repeat (first | exact HB.out | (refine Below.alloc ?_ HB.out.size _) | refine Below.drew ?_))
    by_cases q13 : op = 43
    · subst q13
      have e : partsP 43 = [.place] := by decide
      have HE := Lib.hid e
      clear e
      go_wp2_with fail
      go_ret
      rw [HE.out]
      exact PR_mk rfl (by first | exact heap_alloc_new wc _ | exact drew_blk (heap_alloc_new wc _)) HB.out.size (by repeat (first | exact HB.out | (refine Below.alloc ?_ HB.out.size _) | refine Below.drew ?_))
    by_cases q14 : op = 44
    · subst q14
      have e : partsP 44 = [] := by decide
      have HE := Lib.hid e
      clear e
      go_wp2_with fail
      go_ret
      rw [HE.out]
      exact PR_nil HB.out
    by_cases q15 : op = 48
    · subst q15
      have e : partsP 48 = [.num] := by decide
      have HE := Lib.hid e
      clear e
      go_wp2_with fail
      go_ret
      rw [HE.out]
      exact PR_mk rfl (by first | exact heap_alloc_new wc _ | exact drew_blk (heap_alloc_new wc _)) HB.out.size (by repeat (first | exact HB.out | (refine Below.alloc ?_ HB.out.size _) | refine Below.drew ?_))
    have e : partsP op = [.reg 1, .reg 2] := by unfold partsP; rw [if_neg (by omega)]; rw [if_neg (by omega)]; rw [if_neg (by omega)]; rw [if_neg (by omega)]; rw [if_neg (by omega)]; rw [if_neg (by omega)]; rw [if_neg (by omega)]; rw [if_neg (by omega)]; rw [if_neg (by omega)]; rw [if_neg (by omega)]
    have HE := Lib.hid e
    clear e
    go_wp2_with fail
    all_goals go_ret
    all_goals rw [HE.out]
    all_goals exact PR_mk rfl (by first | exact heap_alloc_new wc _ | exact drew_blk (heap_alloc_new wc _)) HB.out.size (by repeat (first | exact HB.out | (refine Below.alloc ?_ HB.out.size _) | refine Below.drew ?_))
end Go.Proofs.YtlhgfhmdhmgmpaaGreatDoor

set_option linter.unusedVariables false
set_option linter.unusedSimpArgs false
namespace Go.Proofs.YtlhgfhmdhmgmpaaGreatDoor
open Go.RowKit Go.Proofs.YtlhgfhmdhmgmpaaGreatDoorW.PrintWords

theorem below_grow (w : World) (k : Nat) (os : Array Obj) : Below w.heap.size w (Go.Sort.grow (w.drewN k) os) := by
  have h : Below w.heap.size w (w.drewN k) := pw_below_drewN (Below.refl _ _) k
  exact h.trans ⟨rfl, rfl, rfl, by simp [Go.Sort.grow], fun i hi => by simp only [Go.Sort.grow]; rw [Array.getElem?_append_left (by simpa using hi)]⟩

theorem itoa_any (n : Int) (h0 : -9223372036854775808 ≤ n) (h1 : n ≤ 9223372036854775807) (w : World) (hL : LLaid w) :
    Calls Tryz.prog 33 #[.int .i64 n] w fun e w' => e = .returned (.string ⟨(Lib.itoa n).toArray⟩) ∧ Below w.heap.size w w' :=
  (Tryz.strconv_Itoa n h0 h1 w hL.pow).mono fun e w' ⟨he, k, os, hw⟩ => ⟨he, hw ▸ below_grow w k os⟩

theorem holds_zero0 (w : World) (T : TypeId) (nd : Nat) (hs : nd ≤ 24) : Go.Sort.Holds (fun (b : UInt8) => Value.int .u8 (b.toNat : Int)) (w.alloc (.cells Lib.zeros24 T)) w.heap.size 0 (Array.replicate nd (0 : UInt8)) := fun j hj => by
  have hj' : j < nd := by simpa using hj
  refine ⟨?_, World.frozen?_alloc_new _ _ _ _⟩
  rw [World.cell?_alloc_new, Lib.zeros24_at _ (by omega), getElem!_pos _ j hj]
  simp

theorem below_put (w : World) (o : Obj) (dk : Array UInt8) (k : Nat) : Below w.heap.size w ((Go.Sort.putRow (fun (b : UInt8) => Value.int .u8 (b.toNat : Int)) (w.alloc o) w.heap.size 0 dk).drewN k) := by
  rw [Go.Sort.alloc_eq_grow]
  obtain ⟨os', _, e⟩ := Go.Sort.putRow_grow_new (fun (b : UInt8) => Value.int .u8 (b.toNat : Int)) w #[o] w.heap.size 0 dk (Nat.le_refl _)
  rw [e]
  exact below_grow w k os'

set_option maxHeartbeats 4000000 in
set_option maxRecDepth 100000 in
theorem fmtU_in (u : Nat) (hu : u < 4294967296) (w : World) (hL : LLaid w) :
    Calls Tryz.prog 73 #[.int .u64 u, .int .i64 10] w fun e w' => e = .returned (.string ⟨(Lib.decDigits u).toArray⟩) ∧ Below w.heap.size w w' := by
  by_cases hs : u < 100
  · have hd : decide ((u : Int) < 100) = true := decide_eq_true (by omega)
    go_enter Tryz.func73, Tryz.ntmps73
    go_wp2_with (go_at_call 102; refine (Tryz.internal_strconv_small u hs _).mono ?_; rintro e w' ⟨rfl, rfl⟩)
    go_ret
    exact ⟨rfl, Below.refl _ _⟩
  · have hd : decide ((u : Int) < 100) = false := decide_eq_false (by omega)
    have hd2 : ¬ (u : Int) < 100 := by omega
    have hu1 : 1 ≤ u := by omega
    have hu64 : u < 18446744073709551616 := by omega
    have hnd20 : Lib.nDigits u ≤ 20 := by have := Lib.numDigits_eq u hu1 hu64; split at this <;> omega
    have hH0 := holds_zero0 w 148 (Lib.nDigits u) (by omega)
    have hfmt := Tryz.internal_strconv_formatBase10 w.heap.size 0 24 u (Array.replicate (Lib.nDigits u) 0) (w.alloc (.cells Lib.zeros24 148)) hH0 (by rw [Array.size_replicate]; exact Lib.lt_pow_nDigits u) hu64 (by rw [Array.size_replicate]; omega)
    rw [Array.size_replicate] at hfmt
    have HH0 := Lib.hid hH0
    have HL := Lib.hid hL
    have HF := Lib.hid hfmt
    clear hH0 hL hfmt
    have hn0 : (0 : Int) ≤ (Lib.nDigits u : Int) := by omega
    have hn1 : (Lib.nDigits u : Int) ≤ 24 := by omega
    go_enter Tryz.func73, Tryz.ntmps73
    go_wp2_with (go_at_call 103; refine (Tryz.internal_strconv_numDigits u hu1 hu64 _ (Lib.tabIs_alloc HL.out.pow _)).mono ?_; rintro e w' ⟨rfl, rfl⟩)
    refine HF.out.mono ?_
    rintro e w' ⟨rfl, k, v', dk, rfl, hF⟩
    have hcv : (convert 52 9 (.slice (some ⟨w.heap.size, 0, none⟩) (Lib.nDigits u) 24)).run Tryz.prog ((Go.Sort.putRow (fun (b : UInt8) => Value.int .u8 (b.toNat : Int)) (w.alloc (.cells Lib.zeros24 148)) w.heap.size 0 dk).drewN k) = .ok (.string ⟨(Lib.decDigits u).toArray⟩) ((Go.Sort.putRow (fun (b : UInt8) => Value.int .u8 (b.toNat : Int)) (w.alloc (.cells Lib.zeros24 148)) w.heap.size 0 dk).drewN k) := by
      have h := run_convert_bytes_back (P := Tryz.prog) ((Go.Sort.putRow (fun (b : UInt8) => Value.int .u8 (b.toNat : Int)) (w.alloc (.cells Lib.zeros24 148)) w.heap.size 0 dk).drewN k) 52 9 5 ⟨w.heap.size, 0, none⟩ 24 (Lib.decDigits u) Tryz.underlying52 Tryz.underlying5 Tryz.underlying9 (fun j hj => by
        rw [Lib.row_is_numeral hF j hj, Lib.add_plain, World.cell?_drewN]
        exact Go.Sort.cell?_putRow (fun (b : UInt8) => Value.int .u8 (b.toNat : Int)) _ w.heap.size 0 _ dk HH0.out (by rw [hF.size, Array.size_replicate]) j (by rw [hF.size]; rw [Lib.decDigits_length] at hj; exact hj))
      rw [Lib.decDigits_length] at h
      exact h
    go_wp2_with fail
    go_ret
    exact ⟨rfl, below_put w _ dk k⟩

theorem fmtU_any (n : Int) (h0 : 0 ≤ n) (h1 : n < 4294967296) (w : World) (hL : LLaid w) :
    Calls Tryz.prog 35 #[.int .u64 n, .int .i64 10] w fun e w' => e = .returned (.string ⟨(Lib.itoa n).toArray⟩) ∧ Below w.heap.size w w' := by
  obtain ⟨u, rfl⟩ : ∃ u : Nat, n = u := ⟨n.toNat, by omega⟩
  have HL := Lib.hid hL
  clear hL
  go_enter Tryz.func35, Tryz.ntmps35
  go_wp2_with (go_at_call 73; refine (fmtU_in u (by omega) _ HL.out).mono ?_; rintro e w' ⟨rfl, hb⟩)
  go_ret
  exact ⟨by rw [Lib.itoa_nonneg]; rfl, hb⟩

/-! ### rows of strings -/
theorem base_le_of {w : World} {B e size n : Nat} {v : Value} {xs : List Value} (h : w.ownsRow B e size v n xs) (b : Nat) (hb : v.ownBlock = some b) : B ≤ b := by
  rcases h.2 with ⟨rfl, _⟩ | ⟨g, cap, cur, rfl, hg0, _⟩
  · cases hb
  · simp only [Value.ownBlock, Option.some.injEq] at hb; omega

abbrev OwnS (w : World) (B : Nat) (v : Value) (xs : List ByteArray) : Prop := w.ownsRow B 9 1 v xs.length (xs.map Value.string)

theorem OwnS.nil (w : World) (B : Nat) : OwnS w B (.slice none 0 0) [] := ⟨rfl, .inl ⟨rfl, rfl⟩⟩

theorem OwnS.open_ {w : World} {B : Nat} {v : Value} {xs : List ByteArray} (h : OwnS w B v xs) (hne : xs ≠ []) :
    ∃ g c, v = .slice (some ⟨g, 0, none⟩) xs.length c ∧ B ≤ g ∧ g < w.heap.size ∧ xs.length ≤ c ∧ ∀ j x, xs[j]? = some x → w.cell? ⟨g, 0 + j, none⟩ = some (.string x) := by
  rcases h.2 with ⟨_, h0⟩ | ⟨g, cap, cur, hv, hb, hg, hn, hm, hs, ht⟩
  · exact absurd (List.eq_nil_of_length_eq_zero h0) hne
  · have hlt : g < w.heap.size := by
      rcases Nat.lt_or_ge g w.heap.size with h' | h'
      · exact h'
      · rw [Array.getElem?_eq_none h'] at hg; cases hg
    refine ⟨g, cap, hv, hb, hlt, hn, fun j x hx => ?_⟩
    have h' : w.ownsRow B 9 1 (.slice (some ⟨g, 0, none⟩) xs.length cap) xs.length (xs.map Value.string) := hv ▸ h
    rw [Nat.zero_add, h'.cellAt j (by have := (List.getElem?_eq_some_iff.1 hx).1; omega)]
    simp [hx]

/-- append of one string onto an own row, at a plain list. -/
theorem as_list {w : World} {ops : Array Oper} {rest : List Oper} {o : Oper} {a : Act} {Q : Exit → Act → World → Prop} (hgd : o.guard = none) (s x : Operand)
    (ho : o.op = .call { callee := .builtin .append, args := #[s, x], argTypes := #[63, 63] })
    (B : Nat) (v : Value) (xs : List ByteArray) (hs : a.eval s = v) (hown : OwnS w B v xs)
    (ad : Addr) (c : Nat) (y : ByteArray) (hx : a.eval x = .slice (some ad) 1 c) (hnew : w.cell? ad = some (.string y))
    (hle : xs.length + 1 ≤ 1000000000) (hB : B ≤ w.heap.size)
    (h : ∀ v' w', OwnS w' B v' (xs ++ [y]) → w.grownBy w' v.ownBlock → (v'.ownBlock = v.ownBlock ∨ v'.ownBlock = some w.heap.size) → wpList Tryz.prog ops Q rest (a.put o.dst v') w') :
    wpList Tryz.prog ops Q (o :: rest) a w := by
  obtain ⟨i, hi, hii⟩ := Option.map_eq_some_iff.1 (show (Tryz.prog.info? 9).map (fun i => (i.zero, i.size, i.bytes)) = some (some (.string ⟨#[]⟩), 1, 16) by kernel_rfl)
  simp only [Prod.mk.injEq] at hii
  obtain ⟨h1, h2, h3⟩ := hii
  refine wpList_append_own_at w hgd s x 63 ho B 9 i (.string ⟨#[]⟩) 1 16 Tryz.underlying63 hi h1 h2 h3 rfl (by decide) v xs.length _ hs hown ad 1 c [.string y] hx rfl (fun j u hu => ?_) (fun u hu => by simp at hu; subst hu; rfl) (by unfold maxLen; omega) (by omega) hB ?_
  · cases j with
    | zero => simp at hu; subst hu; simpa [Addr.add] using hnew
    | succ j => simp at hu
  · intro v' w' k1 k2 _ k4
    refine h v' w' ?_ k2 k4
    rw [OwnS, List.length_append, List.map_append]
    exact k1

theorem li_own_below {w w' : World} {B e size n : Nat} {v : Value} {xs : List Value} (h : w.ownsRow B e size v n xs) (hb : Below w.heap.size w w') : w'.ownsRow B e size v n xs := by
  refine ⟨h.1, ?_⟩
  rcases h.2 with h0 | ⟨g, cap, cur, hv, hg0, hg, rest⟩
  · exact .inl h0
  · have hlt : g < w.heap.size := by
      rcases Nat.lt_or_ge g w.heap.size with h' | h'
      · exact h'
      · rw [Array.getElem?_eq_none h'] at hg; cases hg
    exact .inr ⟨g, cap, cur, hv, hg0, (hb.block g hlt).trans hg, rest⟩

theorem OwnS.below {w w' : World} {B : Nat} {v : Value} {xs : List ByteArray} (h : OwnS w B v xs) (hb : Below w.heap.size w w') : OwnS w' B v xs := li_own_below h hb

/-! ### what kind a part is -/
theorem as_reg_reg (v : Value) (W : World) : (Instr.typeAssert (.iface 120 v) 20 120 true).run Tryz.prog W = .ok (.tuple #[v, .bool true]) W := by kernel_rfl
theorem as_reg_num (v : Value) (W : World) : (Instr.typeAssert (.iface 120 v) 20 121 true).run Tryz.prog W = .ok (.tuple #[.agg #[.pointer none], .bool false]) W := by kernel_rfl
theorem as_reg_word (v : Value) (W : World) : (Instr.typeAssert (.iface 120 v) 20 89 true).run Tryz.prog W = .ok (.tuple #[.agg #[.pointer none], .bool false]) W := by kernel_rfl
theorem as_reg_place (v : Value) (W : World) : (Instr.typeAssert (.iface 120 v) 20 92 true).run Tryz.prog W = .ok (.tuple #[.agg #[.pointer none], .bool false]) W := by kernel_rfl
theorem as_reg_places (v : Value) (W : World) : (Instr.typeAssert (.iface 120 v) 20 95 true).run Tryz.prog W = .ok (.tuple #[.agg #[.pointer none], .bool false]) W := by kernel_rfl
theorem as_num_reg (v : Value) (W : World) : (Instr.typeAssert (.iface 121 v) 20 120 true).run Tryz.prog W = .ok (.tuple #[.agg #[.pointer none], .bool false]) W := by kernel_rfl
theorem as_num_num (v : Value) (W : World) : (Instr.typeAssert (.iface 121 v) 20 121 true).run Tryz.prog W = .ok (.tuple #[v, .bool true]) W := by kernel_rfl
theorem as_num_word (v : Value) (W : World) : (Instr.typeAssert (.iface 121 v) 20 89 true).run Tryz.prog W = .ok (.tuple #[.agg #[.pointer none], .bool false]) W := by kernel_rfl
theorem as_num_place (v : Value) (W : World) : (Instr.typeAssert (.iface 121 v) 20 92 true).run Tryz.prog W = .ok (.tuple #[.agg #[.pointer none], .bool false]) W := by kernel_rfl
theorem as_num_places (v : Value) (W : World) : (Instr.typeAssert (.iface 121 v) 20 95 true).run Tryz.prog W = .ok (.tuple #[.agg #[.pointer none], .bool false]) W := by kernel_rfl
theorem as_word_reg (v : Value) (W : World) : (Instr.typeAssert (.iface 89 v) 20 120 true).run Tryz.prog W = .ok (.tuple #[.agg #[.pointer none], .bool false]) W := by kernel_rfl
theorem as_word_num (v : Value) (W : World) : (Instr.typeAssert (.iface 89 v) 20 121 true).run Tryz.prog W = .ok (.tuple #[.agg #[.pointer none], .bool false]) W := by kernel_rfl
theorem as_word_word (v : Value) (W : World) : (Instr.typeAssert (.iface 89 v) 20 89 true).run Tryz.prog W = .ok (.tuple #[v, .bool true]) W := by kernel_rfl
theorem as_word_place (v : Value) (W : World) : (Instr.typeAssert (.iface 89 v) 20 92 true).run Tryz.prog W = .ok (.tuple #[.agg #[.pointer none], .bool false]) W := by kernel_rfl
theorem as_word_places (v : Value) (W : World) : (Instr.typeAssert (.iface 89 v) 20 95 true).run Tryz.prog W = .ok (.tuple #[.agg #[.pointer none], .bool false]) W := by kernel_rfl
theorem as_place_reg (v : Value) (W : World) : (Instr.typeAssert (.iface 92 v) 20 120 true).run Tryz.prog W = .ok (.tuple #[.agg #[.pointer none], .bool false]) W := by kernel_rfl
theorem as_place_num (v : Value) (W : World) : (Instr.typeAssert (.iface 92 v) 20 121 true).run Tryz.prog W = .ok (.tuple #[.agg #[.pointer none], .bool false]) W := by kernel_rfl
theorem as_place_word (v : Value) (W : World) : (Instr.typeAssert (.iface 92 v) 20 89 true).run Tryz.prog W = .ok (.tuple #[.agg #[.pointer none], .bool false]) W := by kernel_rfl
theorem as_place_place (v : Value) (W : World) : (Instr.typeAssert (.iface 92 v) 20 92 true).run Tryz.prog W = .ok (.tuple #[v, .bool true]) W := by kernel_rfl
theorem as_place_places (v : Value) (W : World) : (Instr.typeAssert (.iface 92 v) 20 95 true).run Tryz.prog W = .ok (.tuple #[.agg #[.pointer none], .bool false]) W := by kernel_rfl
theorem as_places_reg (v : Value) (W : World) : (Instr.typeAssert (.iface 95 v) 20 120 true).run Tryz.prog W = .ok (.tuple #[.agg #[.pointer none], .bool false]) W := by kernel_rfl
theorem as_places_num (v : Value) (W : World) : (Instr.typeAssert (.iface 95 v) 20 121 true).run Tryz.prog W = .ok (.tuple #[.agg #[.pointer none], .bool false]) W := by kernel_rfl
theorem as_places_word (v : Value) (W : World) : (Instr.typeAssert (.iface 95 v) 20 89 true).run Tryz.prog W = .ok (.tuple #[.agg #[.pointer none], .bool false]) W := by kernel_rfl
theorem as_places_place (v : Value) (W : World) : (Instr.typeAssert (.iface 95 v) 20 92 true).run Tryz.prog W = .ok (.tuple #[.agg #[.pointer none], .bool false]) W := by kernel_rfl
theorem as_places_places (v : Value) (W : World) : (Instr.typeAssert (.iface 95 v) 20 95 true).run Tryz.prog W = .ok (.tuple #[v, .bool true]) W := by kernel_rfl
attribute [local go_sem] as_reg_reg as_reg_num as_reg_word as_reg_place as_reg_places as_num_reg as_num_num as_num_word as_num_place as_num_places as_word_reg as_word_num as_word_word as_word_place as_word_places as_place_reg as_place_num as_place_word as_place_place as_place_places as_places_reg as_places_num as_places_word as_places_place as_places_places

/-! ### list.written -/
theorem ba_cat (a b : List UInt8) : (⟨a.toArray⟩ : ByteArray) ++ ⟨b.toArray⟩ = ⟨(a ++ b).toArray⟩ := by
  apply ByteArray.ext
  simp

theorem itoa_len (n : Int) (h0 : -9223372036854775808 ≤ n) (h1 : n ≤ 9223372036854775807) : (Lib.itoa n).length ≤ 21 := by
  have h : ∀ u : Nat, u ≤ 9223372036854775808 → (Lib.decDigits u).length ≤ 20 := fun u hu => by
    rw [Lib.decDigits_length]
    by_cases hz : u = 0
    · subst hz; unfold Lib.nDigits; simp
    · have := Lib.numDigits_eq u (by omega) (by omega)
      split at this <;> omega
  unfold Lib.itoa
  split
  · rw [List.length_cons]; have := h n.natAbs (by omega); omega
  · have := h n.toNat (by omega); omega

set_option maxRecDepth 100000 in
theorem written_reg (b o : Nat) (n : Int) (w : World) (hL : LLaid w) (hc : w.cell? ⟨b, o, none⟩ = some (.int .i64 n)) (h0 : -9223372036854775808 ≤ n) (h1 : n ≤ 9223372036854775807) :
    Calls Tryz.prog 50 #[pv b (.reg o)] w fun e w' => e = .returned (.string ⟨(82 :: Lib.itoa n).toArray⟩) ∧ Below w.heap.size w w' := by
  have HL := Lib.hid hL
  have hcn := ka (.cells #[.pointer (some ⟨b, o, none⟩)] 120) hc
  have hlen := itoa_len n (by omega) (by omega)
  clear hL hc
  show Calls Tryz.prog _ #[.iface 120 (.agg #[.pointer (some ⟨b, o, none⟩)])] w _
  go_enter Tryz.func50, Tryz.ntmps50
  go_wp2_with (go_at_call 33; refine (itoa_any n (by omega) (by omega) _ (HL.out.below ((Below.refl _ _).alloc (Nat.le_refl _) _))).mono ?_; rintro e w' ⟨rfl, hb⟩)
  go_ret
  exact ⟨congrArg (fun x => Ending.returned (.string x)) (ba_cat [82] _), bt hb⟩

set_option maxRecDepth 100000 in
theorem written_num (b : Nat) (n : Int) (w : World) (hL : LLaid w) (hc : w.cell? ⟨b, 3, none⟩ = some (.int .i64 n)) (h0 : -9223372036854775808 ≤ n) (h1 : n ≤ 9223372036854775807) :
    Calls Tryz.prog 50 #[pv b .num] w fun e w' => e = .returned (.string ⟨(Lib.itoa n).toArray⟩) ∧ Below w.heap.size w w' := by
  have HL := Lib.hid hL
  have hcn := ka (.cells #[.pointer (some ⟨b, 3, none⟩)] 121) hc
  have hlen := itoa_len n (by omega) (by omega)
  clear hL hc
  show Calls Tryz.prog _ #[.iface 121 (.agg #[.pointer (some ⟨b, 3, none⟩)])] w _
  go_enter Tryz.func50, Tryz.ntmps50
  go_wp2_with (go_at_call 33; refine (itoa_any n (by omega) (by omega) _ (HL.out.below ((Below.refl _ _).alloc (Nat.le_refl _) _))).mono ?_; rintro e w' ⟨rfl, hb⟩)
  go_ret
  exact ⟨rfl, bt hb⟩

set_option maxRecDepth 100000 in
theorem written_word (b : Nat) (n : Int) (w : World) (hL : LLaid w) (hc : w.cell? ⟨b, 4, none⟩ = some (.int .u32 n)) (h0 : 0 ≤ n) (h1 : n ≤ 4294967295) :
    Calls Tryz.prog 50 #[pv b .word] w fun e w' => e = .returned (.string ⟨(Lib.itoa n).toArray⟩) ∧ Below w.heap.size w w' := by
  have HL := Lib.hid hL
  have hcn := ka (.cells #[.pointer (some ⟨b, 4, none⟩)] 89) hc
  have hlen := itoa_len n (by omega) (by omega)
  clear hL hc
  show Calls Tryz.prog _ #[.iface 89 (.agg #[.pointer (some ⟨b, 4, none⟩)])] w _
  go_enter Tryz.func50, Tryz.ntmps50
  go_wp2_with (go_at_call 35; refine (fmtU_any n (by omega) (by omega) _ (HL.out.below ((Below.refl _ _).alloc (Nat.le_refl _) _))).mono ?_; rintro e w' ⟨rfl, hb⟩)
  go_ret
  exact ⟨rfl, bt hb⟩

set_option maxRecDepth 100000 in
theorem written_at (p : Addr) (n : Int) (w : World) (hL : LLaid w) (hc : w.cell? p = some (.int .i64 n)) (h0 : -9223372036854775808 ≤ n) (h1 : n ≤ 9223372036854775807) :
    Calls Tryz.prog 50 #[.iface 92 (.agg #[.pointer (some p)])] w fun e w' => e = .returned (.string ⟨(76 :: Lib.itoa n).toArray⟩) ∧ Below w.heap.size w w' := by
  have HL := Lib.hid hL
  have hcn := ka (.cells #[.pointer (some p)] 92) hc
  have hlen := itoa_len n (by omega) (by omega)
  clear hL hc
  go_enter Tryz.func50, Tryz.ntmps50
  go_wp2_with (go_at_call 33; refine (itoa_any n (by omega) (by omega) _ (HL.out.below ((Below.refl _ _).alloc (Nat.le_refl _) _))).mono ?_; rintro e w' ⟨rfl, hb⟩)
  go_ret
  exact ⟨congrArg (fun x => Ending.returned (.string x)) (ba_cat [76] _), bt hb⟩

theorem written_place (b : Nat) (n : Int) (w : World) (hL : LLaid w) (hc : w.cell? ⟨b, 5, none⟩ = some (.int .i64 n)) (h0 : -9223372036854775808 ≤ n) (h1 : n ≤ 9223372036854775807) :
    Calls Tryz.prog 50 #[pv b .place] w fun e w' => e = .returned (.string ⟨(76 :: Lib.itoa n).toArray⟩) ∧ Below w.heap.size w w' :=
  written_at _ n w hL hc h0 h1

theorem kints_at {w : World} {A : Option Addr} {n : Nat} {xs : List Int} (h : kInt.C w A n xs) (i : Nat) (hi : i < n) : ∃ ad x, A = some ad ∧ xs[i]? = some x ∧ w.cell? (ad.add i) = some (.int .i64 x) := by
  have hl : n = xs.length := h.1.symm
  subst hl
  obtain ⟨ad, rfl, hc⟩ := h.2.2 (by omega)
  obtain ⟨cs, hs, hk, hcell⟩ := hc i xs[i] (List.getElem?_eq_getElem hi)
  have e : cs = [Value.int .i64 xs[i]] := hk
  subst e
  have := hcell 0 _ rfl
  exact ⟨ad, xs[i], rfl, List.getElem?_eq_getElem hi, by rw [show i * kInt.sz + 0 = i from by show i * 1 + 0 = i; omega] at this; exact this⟩

def labS (n : Int) : ByteArray := ⟨(76 :: Lib.itoa n).toArray⟩

theorem joinTail_len (m : Nat) : ∀ (r : List (List UInt8)), (∀ x ∈ r, x.length ≤ m) → (Lib.joinTail [32] r).length ≤ (m + 1) * r.length
  | [], _ => by simp [Lib.joinTail]
  | x :: r, h => by
    have h1 := h x (by simp)
    have h2 := joinTail_len m r (fun y hy => h y (by simp [hy]))
    have e : Lib.joinTail [32] (x :: r) = (32 :: x) ++ Lib.joinTail [32] r := by simp [Lib.joinTail]
    rw [e, List.length_append, List.length_cons, List.length_cons, Nat.mul_add]
    omega

theorem join_len (m : Nat) (L : List (List UInt8)) (h : ∀ x ∈ L, x.length ≤ m) : (Lib.join L [32]).length ≤ (m + 1) * L.length := by
  cases L with
  | nil => rw [Lib.join_nil]; exact Nat.zero_le _
  | cons x r =>
    have h1 := h x (by simp)
    have h2 := joinTail_len m r (fun y hy => h y (by simp [hy]))
    rw [Lib.join_cons, List.length_append, List.length_cons, Nat.mul_add]
    omega

theorem join_lab (xs : List Int) (hwf : ∀ x ∈ xs, -9223372036854775808 ≤ x ∧ x ≤ 9223372036854775807) : (Lib.join ((xs.map labS).map (·.data.toList)) [32]).length ≤ 23 * xs.length := by
  have := join_len 22 ((xs.map labS).map (·.data.toList)) (fun y hy => by
    rw [List.map_map, List.mem_map] at hy
    obtain ⟨n, hn, rfl⟩ := hy
    have := itoa_len n (hwf n hn).1 (hwf n hn).2
    show (76 :: Lib.itoa n).length ≤ 22
    rw [List.length_cons]; omega)
  simpa using this

set_option maxHeartbeats 2000000 in
set_option maxRecDepth 100000 in
theorem written_places (b : Nat) (A : Option Addr) (c : Nat) (xs : List Int) (w : World) (hL : LLaid w) (hc : w.cell? ⟨b, 6, none⟩ = some (.slice A xs.length c)) (hr : kInt.C w A xs.length xs) (hwf : ∀ x ∈ xs, -9223372036854775808 ≤ x ∧ x ≤ 9223372036854775807) (hne : xs ≠ []) (hlen : xs.length ≤ 1000) :
    Calls Tryz.prog 50 #[pv b .places] w fun e w' => e = .returned (.string ⟨(Lib.join (xs.map fun n => 76 :: Lib.itoa n) [32]).toArray⟩) ∧ Below w.heap.size w w' := by
  have hcn := ka (.cells #[.pointer (some ⟨b, 6, none⟩)] 95) hc
  have HL := Lib.hid hL
  have HC := Lib.hid hc
  have HR := Lib.hid hr
  have HWF := Lib.hid hwf
  have HNE := Lib.hid hne
  clear hL hc hr hwf hne
  show Calls Tryz.prog _ #[.iface 95 (.agg #[.pointer (some ⟨b, 6, none⟩)])] w _
  go_enter Tryz.func50, Tryz.ntmps50
  go_wp2_with fail
  obtain ⟨W0, hW0⟩ : ∃ W0, W0 = w.alloc (.cells #[.pointer (some ⟨b, 6, none⟩)] 95) := ⟨_, rfl⟩
  rw [← hW0]
  have hB0 : Below w.heap.size w W0 := by rw [hW0]; exact (Below.refl _ _).alloc (Nat.le_refl _) _
  have hp0 : W0.cell? ⟨w.heap.size, 0, none⟩ = some (.pointer (some ⟨b, 6, none⟩)) := by rw [hW0]; exact kn 0 rfl
  rw [← hW0] at hcn
  have HB0 := Lib.hid hB0
  have HP0 := Lib.hid hp0
  have HCN := Lib.hid hcn
  have HL0 := Lib.hid (HL.out.below hB0)
  have HR0 := Lib.hid (Kd.C_below HR.out hB0)
  clear hW0 hB0 hp0 hcn
  go_loopw [8, 54] (fun v s wr => ∃ k : Nat, k ≤ xs.length ∧ s = .int .i64 k ∧ Hid (OwnS wr W0.heap.size v ((xs.take k).map labS)) ∧ Hid (Below W0.heap.size W0 wr)) (fun _ s _ => xs.length - (intOf s).toNat)
  case atStart => exact ⟨0, Nat.zero_le _, rfl, Lib.hid (OwnS.nil _ _), Lib.hid (Below.refl _ _)⟩
  case round =>
    obtain ⟨k, hk, rfl, hO, hB⟩ := hrel
    have q0 := kp hB.out HP0.out
    have q1 := kp hB.out HCN.out
    by_cases hlt : k < xs.length
    · obtain ⟨ad, x, hA, hx, hcx⟩ := kints_at (Kd.C_below HR0.out hB.out) k hlt
      subst hA
      have hx0 : (0 : Int) ≤ (k : Int) := Int.natCast_nonneg _
      have hx1 : (k : Int) < (xs.length : Int) := by omega
      have HX := Lib.hid hx
      have HCX := Lib.hid hcx
      have HW := Lib.hid (HWF.out x (List.mem_of_getElem? hx))
      clear hx hcx
      go_wp2_with fail
      refine (written_at (ad.add k) x wr (HL0.out.below hB.out) HCX.out HW.out.1 HW.out.2).mono ?_
      rintro e w3 ⟨rfl, hb3⟩
      have hb4 := hb3.alloc (Nat.le_trans (Nat.le_refl _) hb3.size) (.cells #[.string (labS x)] 9)
      have HB3 := Lib.hid (bj hB.out hb4)
      have HO3 := Lib.hid (hO.out.below hb4)
      have hts : (xs.take k).map labS ++ [labS x] = (xs.take (k + 1)).map labS := by
        rw [List.take_add_one, HX.out, List.map_append]; rfl
      have HTS := Lib.hid hts
      clear hb3 hb4 hts q0 q1
      go_wp2_with (at_builtin; refine as_list rfl (.tmp 57) (.tmp 67) rfl W0.heap.size u8 _ rfl HO3.out ⟨w3.heap.size, 0, none⟩ 1 (labS x) rfl (kn 0 rfl) (by rw [List.length_map, List.length_take]; omega) (by have := HB3.out.size; exact this) ?_; intro v5 w5 ho5 hg5 _; rw [HTS.out] at ho5; have HO5 := Lib.hid ho5; have HB5 := Lib.hid (HB3.out.grown hg5 HB3.out.size (base_le_of HO3.out)); clear ho5 hg5)
      go_roundw
      case rel => exact ⟨k + 1, hlt, by go_num, HO5, HB5⟩
      case measure => simp [intOf]; omega
    · have hke : k = xs.length := by omega
      subst hke
      clear hlt
      have hne2 : xs.map labS ≠ [] := by simpa using HNE.out
      rw [List.take_length] at hO
      obtain ⟨g, c8, rfl, hg1, hg2, hg3, hg4⟩ := hO.out.open_ hne2
      rw [List.length_map] at hg3 hO
      have hj := join_lab xs HWF.out
      have HJ := Lib.hid (Tryz.strings_Join g 0 c8 (xs.map labS) ⟨#[32]⟩ wr hg4 hg2 (by rw [List.length_map]; omega) (by rw [List.length_map]; exact hg3) (by have : (⟨#[32]⟩ : ByteArray).data.toList = [32] := rfl; rw [this]; omega))
      clear hg1 hg2 hg3 hg4 hne2 hj hO
      rw [List.length_map] at HJ ⊢
      go_wp2_with fail
      refine HJ.out.mono ?_
      rintro e w3 ⟨rfl, hb3⟩
      have HB3 := Lib.hid (bj HB0.out (bj hB.out hb3))
      clear hb3
      go_wp2_with fail
      go_ret
      exact ⟨rfl, HB3.out⟩

end Go.Proofs.YtlhgfhmdhmgmpaaGreatDoor

set_option linter.unusedVariables false
set_option linter.unusedSimpArgs false
namespace Go.Proofs.YtlhgfhmdhmgmpaaGreatDoor
open Go.RowKit Go.Proofs.YtlhgfhmdhmgmpaaGreatDoorW.PrintWords Go.Joins Go.Maps

def inLab (n : Int) : Bool := decide (0 ≤ n ∧ n ≤ 100000)

theorem out_any (n : Int) (w : World) : Calls Tryz.prog 45 #[.int .i64 n] w fun e w' => e = .returned (.bool (!inLab n)) ∧ w = w' := by
  by_cases h0 : n < 0
  · have e : inLab n = false := decide_eq_false (by omega)
    rw [e]
    go_enter Tryz.func45, Tryz.ntmps45
    go_wp2
    go_ret
    exact ⟨rfl, rfl⟩
  · by_cases h1 : n ≤ 100000
    · have e : inLab n = true := decide_eq_true (by omega)
      have h2 : decide ((100000 : Int) < n) = false := decide_eq_false (by omega)
      rw [e]
      go_enter Tryz.func45, Tryz.ntmps45
      go_wp2
      go_ret
      exact ⟨rfl, rfl⟩
    · have e : inLab n = false := decide_eq_false (by omega)
      have h2 : decide ((100000 : Int) < n) = true := decide_eq_true (by omega)
      have h3 : decide (n < 0) = false := decide_eq_false (by omega)
      rw [e]
      clear h1
      go_enter Tryz.func45, Tryz.ntmps45
      go_wp2
      go_ret
      exact ⟨rfl, rfl⟩

def OutIx (xs : List Int) (w : World) (e : Ending) (w' : World) : Prop := (∃ n : Int, e = .returned (.int .i64 n) ∧ (0 ≤ n ↔ xs.all inLab = false)) ∧ w = w'

set_option maxRecDepth 100000 in
theorem indexOut_any (A : Option Addr) (c : Nat) (xs : List Int) (w : World) (hr : kInt.C w A xs.length xs) (hlen : xs.length ≤ 1000000000) :
    Calls Tryz.prog 90 #[.slice A xs.length c, .func (.func 45) #[] #[]] w (OutIx xs w) := by
  have HR := Lib.hid hr
  clear hr
  go_enter Tryz.func90, Tryz.ntmps90
  go_wp2_with fail
  go_loop [8] (fun s => ∃ k : Nat, k ≤ xs.length ∧ s = .int .i64 k ∧ Hid ((xs.take k).all inLab = true)) (fun s => xs.length - (intOf s).toNat)
  case atStart => exact ⟨0, Nat.zero_le _, rfl, Lib.hid rfl⟩
  case round =>
    obtain ⟨k, hk, rfl, hall⟩ := hrel
    by_cases hlt : k < xs.length
    · obtain ⟨ad, x, hA, hx, hcx⟩ := kints_at HR.out k hlt
      subst hA
      have hx0 : (0 : Int) ≤ (k : Int) := Int.natCast_nonneg _
      have hx1 : (k : Int) < (xs.length : Int) := by omega
      have HX := Lib.hid hx
      clear hx
      have hts : (xs.take (k + 1)).all inLab = inLab x := by
        rw [List.take_add_one, HX.out, List.all_append, hall.out]; simp
      have HTS := Lib.hid hts
      have HX2 := Lib.hid (show inLab x = false → xs.all inLab = false from fun h => by
        rw [List.all_eq_false]; exact ⟨x, List.mem_of_getElem? HX.out, by rw [h]; simp⟩)
      clear hts
      cases hb : inLab x with
      | true =>
        have hnb : (!inLab x) = false := by rw [hb]; rfl
        have HOA := Lib.hid (out_any x w)
        rw [hnb] at HOA
        rw [hb] at HTS
        clear hb hnb HX2
        go_wp2_with (go_at_call 45; refine HOA.out.mono ?_; rintro e w' ⟨rfl, rfl⟩)
        go_round
        case rel => exact ⟨k + 1, hlt, by go_num, HTS⟩
        case measure => simp [intOf]; omega
      | false =>
        have hnb : (!inLab x) = true := by rw [hb]; rfl
        have HOA := Lib.hid (out_any x w)
        rw [hnb] at HOA
        have HF := Lib.hid (HX2.out hb)
        clear hb hnb HX2 HTS
        go_wp2_with (go_at_call 45; refine HOA.out.mono ?_; rintro e w' ⟨rfl, rfl⟩)
        go_ret
        exact ⟨⟨_, rfl, by rw [HF.out]; simp⟩, rfl⟩
    · have hke : k = xs.length := by omega
      subst hke
      clear hlt
      rw [List.take_length] at hall
      go_wp2_with fail
      go_ret
      exact ⟨⟨_, rfl, by rw [hall.out]; simp⟩, rfl⟩

theorem containsOut_any (A : Option Addr) (c : Nat) (xs : List Int) (w : World) (hr : kInt.C w A xs.length xs) (hlen : xs.length ≤ 1000000000) :
    Calls Tryz.prog 48 #[.slice A xs.length c, .func (.func 45) #[] #[]] w fun e w' => e = .returned (.bool (!xs.all inLab)) ∧ w = w' := by
  have HR := Lib.hid hr
  clear hr
  go_enter Tryz.func48, Tryz.ntmps48
  go_wp2_with fail
  refine (indexOut_any A c xs w HR.out hlen).mono ?_
  rintro e w' ⟨⟨n, rfl, hn⟩, rfl⟩
  cases hb : xs.all inLab with
  | true =>
    have h1 : decide (0 ≤ n) = false := decide_eq_false (fun h => by rw [hn.1 h] at hb; cases hb)
    have HB := Lib.hid hb
    clear hn hb
    go_wp2_with fail
    go_ret
    exact ⟨by rw [HB.out]; rfl, rfl⟩
  | false =>
    have h1 : decide (0 ≤ n) = true := decide_eq_true (hn.2 hb)
    have HB := Lib.hid hb
    clear hn hb
    go_wp2_with fail
    go_ret
    exact ⟨by rw [HB.out]; rfl, rfl⟩

/-! ### may -/
def hN (l : Line) (ps : List Part) : Int := if Part.word ∈ ps then l.n else 0
def hLb (l : Line) (ps : List Part) : Int := if Part.place ∈ ps then l.label else 0
def hS (v : Value) (ps : List Part) : Value := if Part.places ∈ ps then v else .slice none 0 0
def hSl (l : Line) (ps : List Part) : Nat := if Part.places ∈ ps then l.list.length else 0

def fitsP (l : Line) : Bool := decide (hN l (partsP l.op) = l.n) && decide (hLb l (partsP l.op) = l.label) && decide (hSl l (partsP l.op) = l.list.length) && (decide (l.list.length = 0) != decide (l.op = 42)) && decide (l.list.length ≤ 400)
def brJ (op : Int) : Bool := decide (30 ≤ op ∧ op ≤ 40)
def endP (l : Line) : Bool := decide ((enc l.op l.a l.b l.imm).2 = 0) && (!brJ l.op || decide (l.imm = 0)) && inLab l.label && l.list.all inLab
def labelP (l : Line) : Bool := decide (l.a = 0) && decide (l.b = 0) && decide (l.imm = 0) && decide (l.n = 0) && decide (l.list.length = 0) && inLab l.label

/-- May a line be? -/
def mayP (l : Line) : Bool := if l.op = 0 then labelP l else fitsP l && endP l

def lineV (l : Line) (v : Value) : Value := .agg #[.int .i64 l.op, .int .i64 l.a, .int .i64 l.b, .int .i64 l.imm, .int .u32 l.n, .int .i64 l.label, v]

set_option maxHeartbeats 4000000 in
set_option maxRecDepth 100000 in
theorem may_label (l : Line) (A : Option Addr) (c : Nat) (w : World) (h0 : l.op = 0) :
    Calls Tryz.prog 21 #[lineV l (.slice A l.list.length c)] w fun e w' => e = .returned (.bool (labelP l)) ∧ Below w.heap.size w w' := by
  obtain ⟨op, a, b, imm, n, label, list⟩ := l
  simp only at h0
  subst h0
  unfold lineV
  simp only
  have HO := Lib.hid (out_any label)
  have HL := Lib.hid (show ∀ R, R = (decide (a = 0) && decide (b = 0) && decide (imm = 0) && decide (n = 0) && decide (list.length = 0) && inLab label) → labelP ⟨0, a, b, imm, n, label, list⟩ = R from fun R h => h.symm)
  by_cases h0 : a = 0
  case neg =>
    have e := HL.out false (by simp [*])
    have f0 : (a == 0) = false := beq_eq_false_iff_ne.mpr h0
    rw [e]
    clear e h0
    go_enter Tryz.func21, Tryz.ntmps21
    go_wp2_with fail
    go_ret
    exact ⟨rfl, (Below.refl _ _).alloc (Nat.le_refl _) _⟩
  case pos =>
    subst h0
    by_cases h1 : b = 0
    case neg =>
      have e := HL.out false (by simp [*])
      have f1 : (b == 0) = false := beq_eq_false_iff_ne.mpr h1
      rw [e]
      clear e h1
      go_enter Tryz.func21, Tryz.ntmps21
      go_wp2_with fail
      go_ret
      exact ⟨rfl, (Below.refl _ _).alloc (Nat.le_refl _) _⟩
    case pos =>
      subst h1
      by_cases h2 : imm = 0
      case neg =>
        have e := HL.out false (by simp [*])
        have f2 : (imm == 0) = false := beq_eq_false_iff_ne.mpr h2
        rw [e]
        clear e h2
        go_enter Tryz.func21, Tryz.ntmps21
        go_wp2_with fail
        go_ret
        exact ⟨rfl, (Below.refl _ _).alloc (Nat.le_refl _) _⟩
      case pos =>
        subst h2
        by_cases h3 : n = 0
        case neg =>
          have e := HL.out false (by simp [*])
          have f3 : (n == 0) = false := beq_eq_false_iff_ne.mpr h3
          rw [e]
          clear e h3
          go_enter Tryz.func21, Tryz.ntmps21
          go_wp2_with fail
          go_ret
          exact ⟨rfl, (Below.refl _ _).alloc (Nat.le_refl _) _⟩
        case pos =>
          subst h3
          by_cases h4 : list.length = 0
          case neg =>
            have e := HL.out false (by simp [*])
            have f4 : ((list.length : Int) == 0) = false := beq_eq_false_iff_ne.mpr (by omega)
            rw [e]
            clear e h4
            go_enter Tryz.func21, Tryz.ntmps21
            go_wp2_with fail
            go_ret
            exact ⟨rfl, (Below.refl _ _).alloc (Nat.le_refl _) _⟩
          case pos =>
            have e := HL.out (inLab label) (by simp [*])
            have f4 : ((list.length : Int) == 0) = true := by rw [h4]; rfl
            rw [e]
            clear e h4
            go_enter Tryz.func21, Tryz.ntmps21
            go_wp2_with (go_at_call 45; refine (HO.out _).mono ?_; rintro e w' ⟨rfl, rfl⟩)
            go_ret
            exact ⟨rfl, (Below.refl _ _).alloc (Nat.le_refl _) _⟩

def lineO (l : Line) (v : Value) : Obj := .cells #[.int .i64 l.op, .int .i64 l.a, .int .i64 l.b, .int .i64 l.imm, .int .u32 l.n, .int .i64 l.label, v] 49

/-- may's own line, behind some parts. -/
def HasB (w : World) (h : Nat) (l : Line) (v : Value) (ps : List Part) : Prop :=
  w.heap[h]? = some (.cells #[.int .i64 0, .int .i64 0, .int .i64 0, .int .i64 0, .int .u32 (hN l ps), .int .i64 (hLb l ps), hS v ps] 49 (0, 0))

theorem take_snoc {ps : List Part} {k : Nat} {p : Part} (h : ps[k]? = some p) : ps.take (k + 1) = ps.take k ++ [p] := by rw [List.take_add_one, h]; rfl

theorem HasB.skip {w : World} {h : Nat} {l : Line} {v : Value} {ps : List Part} {k : Nat} {p : Part} (hb : HasB w h l v (ps.take k)) (hp : ps[k]? = some p) (h1 : p ≠ .word) (h2 : p ≠ .place) (h3 : p ≠ .places) : HasB w h l v (ps.take (k + 1)) := by
  rw [take_snoc hp]
  unfold HasB hN hLb hS at *
  simp only [List.mem_append, List.mem_singleton, Ne.symm h1, Ne.symm h2, Ne.symm h3, or_false]
  exact hb

theorem HasB.word {w : World} {h : Nat} {l : Line} {v : Value} {ps : List Part} {k : Nat} (hb : HasB w h l v (ps.take k)) (hp : ps[k]? = some .word) : HasB (w.setCell ⟨h, 4, none⟩ (.int .u32 l.n)) h l v (ps.take (k + 1)) := by
  rw [take_snoc hp]
  unfold HasB hN hLb hS at *
  rw [block_setCell hb _]
  simp only [List.mem_append, List.mem_singleton, reduceCtorEq, or_false, or_true, if_true]
  rfl

theorem HasB.place {w : World} {h : Nat} {l : Line} {v : Value} {ps : List Part} {k : Nat} (hb : HasB w h l v (ps.take k)) (hp : ps[k]? = some .place) : HasB (w.setCell ⟨h, 5, none⟩ (.int .i64 l.label)) h l v (ps.take (k + 1)) := by
  rw [take_snoc hp]
  unfold HasB hN hLb hS at *
  rw [block_setCell hb _]
  simp only [List.mem_append, List.mem_singleton, reduceCtorEq, or_false, or_true, if_true]
  rfl

theorem HasB.places {w : World} {h : Nat} {l : Line} {v : Value} {ps : List Part} {k : Nat} (hb : HasB w h l v (ps.take k)) (hp : ps[k]? = some .places) : HasB (w.setCell ⟨h, 6, none⟩ v) h l v (ps.take (k + 1)) := by
  rw [take_snoc hp]
  unfold HasB hN hLb hS at *
  rw [block_setCell hb _]
  simp only [List.mem_append, List.mem_singleton, reduceCtorEq, or_false, or_true, if_true]
  rfl

theorem HasB.lt {w : World} {h : Nat} {l : Line} {v : Value} {ps : List Part} (hb : HasB w h l v ps) : h < w.heap.size := (Array.getElem?_eq_some_iff.1 hb).1

theorem partsP_len (op : Int) : (partsP op).length ≤ 3 := by
  unfold partsP
  repeat' split
  all_goals decide

/-- The cells of the parts' slice. -/
def PCells (w : World) (b B : Nat) (A : Option Addr) (ps : List Part) : Prop := ∀ i p, ps[i]? = some p → ∃ g, A = some ⟨g, 0, none⟩ ∧ B ≤ g ∧ w.cell? ⟨g, i, none⟩ = some (pv b p)

theorem PCells.set {w : World} {b B h o : Nat} {A : Option Addr} {ps : List Part} {v : Value} (hp : PCells w b B A ps) (hh : h < B) : PCells (w.setCell ⟨h, o, none⟩ v) b B A ps := fun i p hi => by
  obtain ⟨g, h1, h2, h3⟩ := hp i p hi
  exact ⟨g, h1, h2, by rw [World.cell?_setCell_other _ _ _ _ (by intro e; injection e with e1; omega)]; exact h3⟩

theorem blk_set {w : World} {g h o : Nat} {ob : Obj} {v : Value} (hb : w.heap[g]? = some ob) (hne : g ≠ h) : (w.setCell ⟨h, o, none⟩ v).heap[g]? = some ob := by
  rw [Below.heap_setCell _ _ _ _ hne]; exact hb

attribute [local go_sem] as_reg_reg as_reg_num as_reg_word as_reg_place as_reg_places as_num_reg as_num_num as_num_word as_num_place as_num_places as_word_reg as_word_num as_word_word as_word_place as_word_places as_place_reg as_place_num as_place_word as_place_place as_place_places as_places_reg as_places_num as_places_word as_places_place as_places_places

set_option maxHeartbeats 4000000 in
set_option maxRecDepth 100000 in
theorem may_other (l : Line) (A : Option Addr) (c : Nat) (w : World) (hL : LLaid w) (hr : kInt.C w A l.list.length l.list) (h0 : l.op ≠ 0) :
    Calls Tryz.prog 21 #[lineV l (.slice A l.list.length c)] w fun e w' => e = .returned (.bool (fitsP l && endP l)) ∧ Below w.heap.size w w' := by
  have f0 : (l.op == 0) = false := beq_eq_false_iff_ne.mpr h0
  have HL := Lib.hid hL
  have HR := Lib.hid hr
  clear hL hr h0
  obtain ⟨ps, hps⟩ : ∃ ps, ps = partsP l.op := ⟨_, rfl⟩
  have HPS := Lib.hid hps
  have hp3 : ps.length ≤ 3 := by rw [hps]; exact partsP_len _
  clear hps
  unfold lineV
  go_enter Tryz.func21, Tryz.ntmps21
  go_wp2_with fail
  refine (parts_any w.heap.size l.op _ (ka _ (kn 0 rfl))).mono ?_
  rw [← HPS.out]
  rintro e w3 ⟨A8, c8, rfl, hcells, hb3⟩
  obtain ⟨W1, hW1⟩ : ∃ W1, W1 = w.alloc (lineO l (.slice A l.list.length c)) := ⟨_, rfl⟩
  have hlb : w3.heap[w.heap.size]? = some (.cells #[.int .i64 l.op, .int .i64 l.a, .int .i64 l.b, .int .i64 l.imm, .int .u32 l.n, .int .i64 l.label, .slice A l.list.length c] 49 (0, 0)) := by
    rw [hb3.block _ (by simp; omega), Below.heap_alloc _ _ _ (by simp)]
    exact heap_alloc_new w _
  have hhb : HasB w3 (w.heap.size + 1) l (.slice A l.list.length c) (ps.take 0) := by
    unfold HasB
    rw [hb3.block _ (by simp)]
    have e0 : hN l (ps.take 0) = 0 := by simp [hN]
    have e1 : hLb l (ps.take 0) = 0 := by simp [hLb]
    have e2 : hS (.slice A l.list.length c) (ps.take 0) = .slice none 0 0 := by simp [hS]
    rw [e0, e1, e2]
    have := heap_alloc_new (w.alloc (lineO l (.slice A l.list.length c))) (.cells #[.int .i64 0, .int .i64 0, .int .i64 0, .int .i64 0, .int .u32 0, .int .i64 0, .slice none 0 0] 49)
    rw [show (w.alloc (lineO l (.slice A l.list.length c))).heap.size = w.heap.size + 1 from by simp] at this
    exact this
  have hpc : PCells w3 w.heap.size (w.heap.size + 2) A8 ps := fun i p hi => by
    obtain ⟨g, k1, k2, k3⟩ := hcells i p hi
    exact ⟨g, k1, by simpa using k2, k3⟩
  have hbw : Below w.heap.size w w3 := bt2 hb3
  have HLB := Lib.hid hlb
  have HHB := Lib.hid hhb
  have HPC := Lib.hid hpc
  have HBW := Lib.hid hbw
  clear hlb hhb hpc hbw hb3 hcells hW1
  go_wp2_with fail
  go_loopw [46] (fun s wr => ∃ k : Nat, k ≤ ps.length ∧ s = .int .i64 k ∧ Hid (HasB wr (w.heap.size + 1) l (.slice A l.list.length c) (ps.take k)) ∧ Hid (wr.heap[w.heap.size]? = some (.cells #[.int .i64 l.op, .int .i64 l.a, .int .i64 l.b, .int .i64 l.imm, .int .u32 l.n, .int .i64 l.label, .slice A l.list.length c] 49 (0, 0))) ∧ Hid (PCells wr w.heap.size (w.heap.size + 2) A8 ps) ∧ Hid (Below w.heap.size w wr)) (fun s _ => ps.length - (intOf s).toNat)
  case atStart => exact ⟨0, Nat.zero_le _, rfl, HHB, HLB, HPC, HBW⟩
  case round =>
    obtain ⟨k, hk, rfl, hH, hLn, hP, hB⟩ := hrel
    by_cases hlt : k < ps.length
    · obtain ⟨g, hA, hg, hcx⟩ := hP.out k _ (List.getElem?_eq_getElem hlt)
      have HPK := Lib.hid (List.getElem?_eq_getElem hlt : ps[k]? = some ps[k])
      generalize ps[k] = p at hcx HPK
      subst hA
      have hx0 : (0 : Int) ≤ (k : Int) := Int.natCast_nonneg _
      have hx1 : (k : Int) < (ps.length : Int) := by omega
      cases p with
      | reg o =>
        unfold pv at hcx
        simp only [Part.ty, Part.off] at hcx
        go_wp2_with fail
        go_roundw
        case rel => exact ⟨k + 1, hlt, by go_num, Lib.hid (hH.out.skip HPK.out (by simp) (by simp) (by simp)), hLn, hP, hB⟩
        case measure => simp [intOf]; omega
      | num =>
        unfold pv at hcx
        simp only [Part.ty, Part.off] at hcx
        go_wp2_with fail
        go_roundw
        case rel => exact ⟨k + 1, hlt, by go_num, Lib.hid (hH.out.skip HPK.out (by simp) (by simp) (by simp)), hLn, hP, hB⟩
        case measure => simp [intOf]; omega
      | word =>
        unfold pv at hcx
        simp only [Part.ty, Part.off] at hcx
        have c4 := cell_of_block hLn.out 4
        have d4 := cell_of_block hH.out 4
        have g4 := unfrozen_of_block hH.out 4
        simp only [List.getElem?_toArray, List.getElem?_cons_succ, List.getElem?_cons_zero] at c4 d4
        go_wp2_with fail
        go_roundw
        case rel => exact ⟨k + 1, hlt, by go_num, Lib.hid (hH.out.word HPK.out), Lib.hid (blk_set hLn.out (by omega)), Lib.hid (hP.out.set (by omega)), Lib.hid (hB.out.setCell (by simp) _)⟩
        case measure => simp [intOf]; omega
      | place =>
        unfold pv at hcx
        simp only [Part.ty, Part.off] at hcx
        have c4 := cell_of_block hLn.out 5
        have d4 := cell_of_block hH.out 5
        have g4 := unfrozen_of_block hH.out 5
        simp only [List.getElem?_toArray, List.getElem?_cons_succ, List.getElem?_cons_zero] at c4 d4
        go_wp2_with fail
        go_roundw
        case rel => exact ⟨k + 1, hlt, by go_num, Lib.hid (hH.out.place HPK.out), Lib.hid (blk_set hLn.out (by omega)), Lib.hid (hP.out.set (by omega)), Lib.hid (hB.out.setCell (by simp) _)⟩
        case measure => simp [intOf]; omega
      | places =>
        unfold pv at hcx
        simp only [Part.ty, Part.off] at hcx
        have c4 := cell_of_block hLn.out 6
        have d4 := cell_of_block hH.out 6
        have g4 := unfrozen_of_block hH.out 6
        simp only [List.getElem?_toArray, List.getElem?_cons_succ, List.getElem?_cons_zero] at c4 d4
        go_wp2_with fail
        go_roundw
        case rel => exact ⟨k + 1, hlt, by go_num, Lib.hid (hH.out.places HPK.out), Lib.hid (blk_set hLn.out (by omega)), Lib.hid (hP.out.set (by omega)), Lib.hid (hB.out.setCell (by simp) _)⟩
        case measure => simp [intOf]; omega
    · have hke : k = ps.length := by omega
      subst hke
      clear hlt
      rw [List.take_length] at hH
      have c0 := cell_of_block hLn.out 0
      have c1 := cell_of_block hLn.out 1
      have c2 := cell_of_block hLn.out 2
      have c3 := cell_of_block hLn.out 3
      have c4 := cell_of_block hLn.out 4
      have c5 := cell_of_block hLn.out 5
      have c6 := cell_of_block hLn.out 6
      have d4 := cell_of_block hH.out 4
      have d5 := cell_of_block hH.out 5
      have d6 := cell_of_block hH.out 6
      simp only [List.getElem?_toArray, List.getElem?_cons_succ, List.getElem?_cons_zero] at c0 c1 c2 c3 c4 c5 c6 d4 d5 d6
      obtain ⟨A6, c9, hS6⟩ : ∃ A6 c9, hS (.slice A l.list.length c) ps = .slice A6 (hSl l ps) c9 := by
        unfold hS hSl
        split
        · exact ⟨_, _, rfl⟩
        · exact ⟨_, _, rfl⟩
      rw [hS6] at d6
      have HF := Lib.hid (show ∀ R, (decide (hN l ps = l.n) && decide (hLb l ps = l.label) && decide (hSl l ps = l.list.length) && (decide (l.list.length = 0) != decide (l.op = 42)) && decide (l.list.length ≤ 400)) = R → fitsP l = R from fun R h => by rw [← h, HPS.out]; rfl)
      clear hS6 hk hH hP
      generalize hN l ps = N at d4 HF
      generalize hLb l ps = M at d5 HF
      generalize hSl l ps = S at d6 HF
      go_upto_region 16 with fail
      go_cut [106] from 70 to 106 (fun s wx => s = .bool (!fitsP l) ∧ wr = wx)
      case first =>
        by_cases h1 : N = l.n
        case neg =>
          have HE := Lib.hid (HF.out false (by simp [h1]))
          have x1 : (N == l.n) = false := beq_eq_false_iff_ne.mpr h1
          have x2 : (N != l.n) = true := bne_iff_ne.mpr h1
          clear h1
          go_wp2_with fail
          go_meet
          exact ⟨by rw [HE.out]; rfl, rfl⟩
        case pos =>
        have x1 : (N == l.n) = true := beq_iff_eq.mpr h1
        have x2 : (N != l.n) = false := by rw [h1]; simp
        by_cases h2 : M = l.label
        case neg =>
          have HE := Lib.hid (HF.out false (by simp [h2]))
          have y1 : (M == l.label) = false := beq_eq_false_iff_ne.mpr h2
          have y2 : (M != l.label) = true := bne_iff_ne.mpr h2
          clear h1 h2
          go_wp2_with fail
          go_meet
          exact ⟨by rw [HE.out]; rfl, rfl⟩
        case pos =>
        have y1 : (M == l.label) = true := beq_iff_eq.mpr h2
        have y2 : (M != l.label) = false := by rw [h2]; simp
        by_cases h3 : S = l.list.length
        case neg =>
          have HE := Lib.hid (HF.out false (by simp [h3]))
          have z1 : (S == l.list.length) = false := beq_eq_false_iff_ne.mpr h3
          have z2 : (S != l.list.length) = true := bne_iff_ne.mpr h3
          have z3 : ((S : Int) == (l.list.length : Int)) = false := beq_eq_false_iff_ne.mpr (by omega)
          have z4 : ((S : Int) != (l.list.length : Int)) = true := bne_iff_ne.mpr (by omega)
          clear h1 h2 h3
          go_wp2_with fail
          go_meet
          exact ⟨by rw [HE.out]; rfl, rfl⟩
        case pos =>
        subst h3
        have HG := Lib.hid (show ∀ R, ((decide (l.list.length = 0) != decide (l.op = 42)) && decide (l.list.length ≤ 400)) = R → fitsP l = R from fun R h => HF.out R (by rw [decide_eq_true h1, decide_eq_true h2, decide_eq_true rfl, ← h]; simp))
        clear HF h1 h2
        by_cases h4 : l.list.length = 0
        case pos =>
          have k1 : ((l.list.length : Int) == 0) = true := by rw [h4]; rfl
          have k5 : decide ((400 : Int) < (l.list.length : Int)) = false := decide_eq_false (by omega)
          by_cases h5 : l.op = 42
          case pos =>
            have HE := Lib.hid (HG.out false (by rw [decide_eq_true h4, decide_eq_true h5]; rfl))
            have k2 : (l.op == 42) = true := beq_iff_eq.mpr h5
            clear h4 h5
            go_wp2_with fail
            go_meet
            exact ⟨by rw [HE.out]; rfl, rfl⟩
          case neg =>
            have HE := Lib.hid (HG.out true (by rw [decide_eq_true h4, decide_eq_false h5, decide_eq_true (show l.list.length ≤ 400 by omega)]; rfl))
            have k2 : (l.op == 42) = false := beq_eq_false_iff_ne.mpr h5
            clear h4 h5
            go_wp2_with fail
            go_meet
            exact ⟨by rw [HE.out]; rfl, rfl⟩
        case neg =>
          have k1 : ((l.list.length : Int) == 0) = false := beq_eq_false_iff_ne.mpr (by omega)
          by_cases h5 : l.op = 42
          case neg =>
            have HE := Lib.hid (HG.out false (by rw [decide_eq_false h4, decide_eq_false h5]; rfl))
            have k2 : (l.op == 42) = false := beq_eq_false_iff_ne.mpr h5
            clear h4 h5
            go_wp2_with fail
            go_meet
            exact ⟨by rw [HE.out]; rfl, rfl⟩
          case pos =>
            have k2 : (l.op == 42) = true := beq_iff_eq.mpr h5
            by_cases h6 : l.list.length ≤ 400
            case pos =>
              have HE := Lib.hid (HG.out true (by rw [decide_eq_false h4, decide_eq_true h5, decide_eq_true h6]; rfl))
              have k5 : decide ((400 : Int) < (l.list.length : Int)) = false := decide_eq_false (by omega)
              clear h4 h5 h6
              go_wp2_with fail
              go_meet
              exact ⟨by rw [HE.out]; rfl, rfl⟩
            case neg =>
              have HE := Lib.hid (HG.out false (by rw [decide_eq_false h4, decide_eq_true h5, decide_eq_false h6]; rfl))
              have k5 : decide ((400 : Int) < (l.list.length : Int)) = true := decide_eq_true (by omega)
              clear h4 h5 h6
              go_wp2_with fail
              go_meet
              exact ⟨by rw [HE.out]; rfl, rfl⟩
      case rest =>
        obtain ⟨rfl, rfl⟩ := hcut
        have HLL := Lib.hid (show fitsP l = true → l.list.length ≤ 400 from fun h => by unfold fitsP at h; simp only [Bool.and_eq_true] at h; exact of_decide_eq_true h.2)
        clear HF
        cases hf : fitsP l with
        | false =>
          go_wp2_with fail
          go_ret
          exact ⟨by rw [hf]; rfl, hB.out⟩
        | true =>
          have hl4 := HLL.out hf
          have HFF := Lib.hid hf
          clear hf
          go_upto_region 18 with fail
          go_cut [7] from 107 to 114 (fun s wx => s = .bool (brJ l.op) ∧ wr = wx)
          case first =>
            by_cases h1 : 30 ≤ l.op
            · by_cases h2 : l.op ≤ 40
              · have HE := Lib.hid (show brJ l.op = true from decide_eq_true ⟨h1, h2⟩)
                have x1 : decide ((30 : Int) ≤ l.op) = true := decide_eq_true h1
                have x2 : decide (l.op ≤ (40 : Int)) = true := decide_eq_true h2
                go_wp2_with fail
                go_meet
                exact ⟨by rw [HE.out], rfl⟩
              · have HE := Lib.hid (show brJ l.op = false from decide_eq_false (by omega))
                have x1 : decide ((30 : Int) ≤ l.op) = true := decide_eq_true h1
                have x2 : decide (l.op ≤ (40 : Int)) = false := decide_eq_false h2
                go_wp2_with fail
                go_meet
                exact ⟨by rw [HE.out], rfl⟩
            · have HE := Lib.hid (show brJ l.op = false from decide_eq_false (by omega))
              have x1 : decide ((30 : Int) ≤ l.op) = false := decide_eq_false h1
              go_wp2_with fail
              go_meet
              exact ⟨by rw [HE.out], rfl⟩
          case rest =>
            obtain ⟨rfl, rfl⟩ := hcut
            have HEnd := Lib.hid (show ∀ R, (decide ((enc l.op l.a l.b l.imm).2 = 0) && (!brJ l.op || decide (l.imm = 0)) && inLab l.label && l.list.all inLab) = R → endP l = R from fun R h => h)
            have HEN := Lib.hid (encode_any l.op l.a l.b l.imm wr (HL.out.below hB.out).forms)
            clear d4 d5 d6 c4 hLn
            generalize enc l.op l.a l.b l.imm = E at HEnd HEN
            obtain ⟨E1, E2⟩ := E
            simp only at HEnd HEN
            go_wp2_with fail
            refine HEN.out.mono ?_
            rintro e w5 ⟨rfl, hb5⟩
            have HB5 := Lib.hid (bj hB.out hb5)
            have HR5 := Lib.hid (Kd.C_below HR.out (bj hB.out hb5))
            replace c3 := kp hb5 c3
            replace c5 := kp hb5 c5
            replace c6 := kp hb5 c6
            clear hb5 c0 c1 c2 HEN
            by_cases he : E2 = 0
            case neg =>
              have HE := Lib.hid (HEnd.out false (by simp [he]))
              have x1 : (E2 == 0) = false := beq_eq_false_iff_ne.mpr he
              clear he
              go_wp2_with fail
              go_ret
              exact ⟨by rw [HFF.out, HE.out]; rfl, HB5.out⟩
            case pos =>
            subst he
            cases hbr : brJ l.op with
            | true =>
              by_cases hi : l.imm = 0
              case neg =>
                have HE := Lib.hid (HEnd.out false (by simp [*]))
                have x1 : (l.imm == 0) = false := beq_eq_false_iff_ne.mpr hi
                clear hi
                go_wp2_with fail
                go_ret
                exact ⟨by rw [HFF.out, HE.out]; rfl, HB5.out⟩
              case pos =>
              have x1 : (l.imm == 0) = true := beq_iff_eq.mpr hi
              cases hlb : inLab l.label with
              | false =>
                have HE := Lib.hid (HEnd.out false (by simp [*]))
                have HO := Lib.hid (out_any l.label)
                have hnb : (!inLab l.label) = true := by rw [hlb]; rfl
                rw [hnb] at HO
                clear hlb hnb
                go_wp2_with (go_at_call 45; refine (HO.out _).mono ?_; rintro e w' ⟨rfl, rfl⟩)
                go_ret
                exact ⟨by rw [HFF.out, HE.out]; rfl, HB5.out⟩
              | true =>
                have HE := Lib.hid (HEnd.out (l.list.all inLab) (by simp [*]))
                have HO := Lib.hid (out_any l.label)
                have hnb : (!inLab l.label) = false := by rw [hlb]; rfl
                rw [hnb] at HO
                clear hlb hnb
                go_wp2_with (first | (go_at_call 45; refine (HO.out _).mono ?_; rintro e w' ⟨rfl, rfl⟩) | (go_at_call 48; refine (containsOut_any A c l.list _ HR5.out (by omega)).mono ?_; rintro e w' ⟨rfl, rfl⟩))
                go_ret
                exact ⟨by rw [HFF.out, HE.out]; simp, HB5.out⟩
            | false =>
              cases hlb : inLab l.label with
              | false =>
                have HE := Lib.hid (HEnd.out false (by simp [*]))
                have HO := Lib.hid (out_any l.label)
                have hnb : (!inLab l.label) = true := by rw [hlb]; rfl
                rw [hnb] at HO
                clear hlb hnb
                go_wp2_with (go_at_call 45; refine (HO.out _).mono ?_; rintro e w' ⟨rfl, rfl⟩)
                go_ret
                exact ⟨by rw [HFF.out, HE.out]; rfl, HB5.out⟩
              | true =>
                have HE := Lib.hid (HEnd.out (l.list.all inLab) (by simp [*]))
                have HO := Lib.hid (out_any l.label)
                have hnb : (!inLab l.label) = false := by rw [hlb]; rfl
                rw [hnb] at HO
                clear hlb hnb
                go_wp2_with (first | (go_at_call 45; refine (HO.out _).mono ?_; rintro e w' ⟨rfl, rfl⟩) | (go_at_call 48; refine (containsOut_any A c l.list _ HR5.out (by omega)).mono ?_; rintro e w' ⟨rfl, rfl⟩))
                go_ret
                exact ⟨by rw [HFF.out, HE.out]; simp, HB5.out⟩

theorem may_any (l : Line) (A : Option Addr) (c : Nat) (w : World) (hL : LLaid w) (hr : kInt.C w A l.list.length l.list) :
    Calls Tryz.prog 21 #[lineV l (.slice A l.list.length c)] w fun e w' => e = .returned (.bool (mayP l)) ∧ Below w.heap.size w w' := by
  unfold mayP
  split
  · exact may_label l A c w ‹_›
  · exact may_other l A c w hL hr ‹_›

end Go.Proofs.YtlhgfhmdhmgmpaaGreatDoor

set_option linter.unusedVariables false
set_option linter.unusedSimpArgs false
namespace Go.Proofs.YtlhgfhmdhmgmpaaGreatDoor
open Go.RowKit Go.Proofs.YtlhgfhmdhmgmpaaGreatDoorW.PrintWords Go.Joins Go.Maps

def opNames : List (List UInt8) := [[76, 73], [76, 73, 84], [77, 79, 86], [65, 68, 68, 73], [65, 68, 68], [83, 85, 66], [77, 85, 76], [68, 73, 86, 83], [68, 73, 86, 85], [82, 69, 77, 83], [82, 69, 77, 85], [65, 78, 68], [79, 82], [88, 79, 82], [83, 72, 76], [83, 72, 82, 83], [83, 72, 82, 85], [69, 81], [78, 69], [76, 84, 83], [76, 84, 85], [76, 69, 83], [76, 69, 85], [78, 69, 71], [78, 79, 84], [76, 79, 87], [76, 68], [83, 84], [67, 72, 75], [66, 69, 81], [66, 78, 69], [66, 76, 84, 83], [66, 71, 69, 83], [66, 76, 69, 83], [66, 71, 84, 83], [66, 76, 84, 85], [66, 71, 69, 85], [66, 76, 69, 85], [66, 71, 84, 85], [74, 77, 80], [74, 77, 76], [74, 84, 65, 66], [67, 65, 76, 76], [82, 69, 84], [71, 69, 84, 67], [80, 85, 84, 67], [69, 88, 73, 84], [84, 82, 65, 80]]
def namesL : List UInt8 := [76, 73, 32, 76, 73, 84, 32, 77, 79, 86, 32, 65, 68, 68, 73, 32, 65, 68, 68, 32, 83, 85, 66, 32, 77, 85, 76, 32, 68, 73, 86, 83, 32, 68, 73, 86, 85, 32, 82, 69, 77, 83, 32, 82, 69, 77, 85, 32, 65, 78, 68, 32, 79, 82, 32, 88, 79, 82, 32, 83, 72, 76, 32, 83, 72, 82, 83, 32, 83, 72, 82, 85, 32, 69, 81, 32, 78, 69, 32, 76, 84, 83, 32, 76, 84, 85, 32, 76, 69, 83, 32, 76, 69, 85, 32, 78, 69, 71, 32, 78, 79, 84, 32, 76, 79, 87, 32, 76, 68, 32, 83, 84, 32, 67, 72, 75, 32, 66, 69, 81, 32, 66, 78, 69, 32, 66, 76, 84, 83, 32, 66, 71, 69, 83, 32, 66, 76, 69, 83, 32, 66, 71, 84, 83, 32, 66, 76, 84, 85, 32, 66, 71, 69, 85, 32, 66, 76, 69, 85, 32, 66, 71, 84, 85, 32, 74, 77, 80, 32, 74, 77, 76, 32, 74, 84, 65, 66, 32, 67, 65, 76, 76, 32, 82, 69, 84, 32, 71, 69, 84, 67, 32, 80, 85, 84, 67, 32, 69, 88, 73, 84, 32, 84, 82, 65, 80]

set_option maxRecDepth 100000 in
theorem fields_namesL : Lib.fields namesL = opNames := by kernel_rfl
theorem opNames_len : opNames.length = 48 := by kernel_rfl
theorem namesL_ascii : namesL.all (fun b => decide (b.toNat < 128)) = true := by kernel_rfl
theorem namesL_len : namesL.length = 206 := by kernel_rfl

def nameS (k : Nat) : ByteArray := ⟨(opNames.getD k []).toArray⟩
def namesO : Obj := .cells (opNames.map fun l => Value.string ⟨l.toArray⟩).toArray 9

theorem names_cell (k : Nat) (hk : k < 48) (W : World) : (W.alloc namesO).cell? ⟨W.heap.size, k, none⟩ = some (.string (nameS k)) := by
  unfold namesO
  rw [World.cell?_alloc_new]
  have hk' : k < opNames.length := by rw [opNames_len]; exact hk
  simp [nameS, List.getElem?_eq_getElem hk', List.getD_eq_getElem?_getD]

theorem fields_names (s : ByteArray) (hs : s.data.toList = namesL) (w : World) (hL : LLaid w) :
    Calls Tryz.prog 51 #[.string s] w fun e w' => e = .returned (.slice (some ⟨w.heap.size, 0, none⟩) 48 48) ∧ w' = w.alloc namesO := by
  have hsz : s.size = 206 := by show s.data.size = _; rw [← Array.length_toList, hs, namesL_len]
  have h := Tryz.strings_Fields s w (by omega) (fun j b hj => by
    rw [hs] at hj
    exact of_decide_eq_true (List.all_eq_true.1 namesL_ascii b (List.mem_of_getElem? hj))) hL.spc
  rw [hs, fields_namesL, opNames_len] at h
  exact h

/-! ### the text of a line -/
def fieldI (l : Line) (o : Nat) : Int := if o = 1 then l.a else if o = 2 then l.b else l.imm

def partT (l : Line) : Part → List UInt8
  | .reg o => 82 :: Lib.itoa (fieldI l o)
  | .num => Lib.itoa l.imm
  | .word => Lib.itoa l.n
  | .place => 76 :: Lib.itoa l.label
  | .places => Lib.join (l.list.map fun n => 76 :: Lib.itoa n) [32]

def textP (l : Line) : List UInt8 :=
  if l.op = 0 then (76 :: Lib.itoa l.label) ++ [58]
  else Lib.join (opNames.getD (l.op.toNat - 1) [] :: (partsP l.op).map (partT l)) [32]

/-- The numbers of a line that are in range. -/
structure WfL (l : Line) : Prop where
  a0 : -9223372036854775808 ≤ l.a
  a1 : l.a ≤ 9223372036854775807
  b0 : -9223372036854775808 ≤ l.b
  b1 : l.b ≤ 9223372036854775807
  i0 : -9223372036854775808 ≤ l.imm
  i1 : l.imm ≤ 9223372036854775807
  n0 : 0 ≤ l.n
  n1 : l.n ≤ 4294967295
  l0 : -9223372036854775808 ≤ l.label
  l1 : l.label ≤ 9223372036854775807
  ls : ∀ x ∈ l.list, -9223372036854775808 ≤ x ∧ x ≤ 9223372036854775807

theorem fieldI_rng {l : Line} (h : WfL l) (o : Nat) : -9223372036854775808 ≤ fieldI l o ∧ fieldI l o ≤ 9223372036854775807 := by
  unfold fieldI
  split
  · exact ⟨h.a0, h.a1⟩
  · split
    · exact ⟨h.b0, h.b1⟩
    · exact ⟨h.i0, h.i1⟩

/-- A line in memory. -/
structure LineM (w : World) (b : Nat) (l : Line) (A : Option Addr) (c : Nat) : Prop where
  blk : w.heap[b]? = some (.cells #[.int .i64 l.op, .int .i64 l.a, .int .i64 l.b, .int .i64 l.imm, .int .u32 l.n, .int .i64 l.label, .slice A l.list.length c] 49 (0, 0))
  row : kInt.C w A l.list.length l.list

theorem LineM.below {w w' : World} {b : Nat} {l : Line} {A : Option Addr} {c : Nat} (h : LineM w b l A c) (hb : Below w.heap.size w w') : LineM w' b l A c :=
  ⟨(hb.block b (Array.getElem?_eq_some_iff.1 h.blk).1).trans h.blk, Kd.C_below h.row hb⟩

/-- What is known of a part of a line that may be. -/
def PartOk (l : Line) : Part → Prop
  | .reg o => o = 1 ∨ o = 2 ∨ o = 3
  | .places => l.list ≠ [] ∧ l.list.length ≤ 400
  | _ => True

theorem written_part (p : Part) (b : Nat) (l : Line) (A : Option Addr) (c : Nat) (w : World) (hL : LLaid w) (hm : LineM w b l A c) (hwf : WfL l) (hp : PartOk l p) :
    Calls Tryz.prog 50 #[pv b p] w fun e w' => e = .returned (.string ⟨(partT l p).toArray⟩) ∧ Below w.heap.size w w' := by
  cases p with
  | reg o =>
    have hr := fieldI_rng hwf o
    refine written_reg b o (fieldI l o) w hL ?_ hr.1 hr.2
    rw [cell_of_block hm.blk]
    rcases hp with rfl | rfl | rfl <;> rfl
  | num => exact written_num b l.imm w hL (by rw [cell_of_block hm.blk]; rfl) hwf.i0 hwf.i1
  | word => exact written_word b l.n w hL (by rw [cell_of_block hm.blk]; rfl) hwf.n0 hwf.n1
  | place => exact written_place b l.label w hL (by rw [cell_of_block hm.blk]; rfl) hwf.l0 hwf.l1
  | places => exact written_places b A c l.list w hL (by rw [cell_of_block hm.blk]; rfl) hm.row hwf.ls hp.1 (by have := hp.2; omega)

theorem partsP_reg (op : Int) (o : Nat) (h : Part.reg o ∈ partsP op) : o = 1 ∨ o = 2 ∨ o = 3 := by
  unfold partsP at h
  repeat' split at h
  all_goals (simp only [List.mem_cons, List.not_mem_nil, Part.reg.injEq, reduceCtorEq, or_false, false_or] at h; try omega)

theorem partsP_places (op : Int) (h : Part.places ∈ partsP op) : op = 42 := by
  unfold partsP at h
  repeat' split at h
  all_goals (simp only [List.mem_cons, List.not_mem_nil, reduceCtorEq, or_false, false_or] at h; try assumption)

theorem partOk_of {l : Line} (hm : fitsP l = true) {p : Part} (h : p ∈ partsP l.op) : PartOk l p := by
  cases p with
  | reg o => exact partsP_reg _ _ h
  | places =>
    have h42 := partsP_places _ h
    unfold fitsP at hm
    simp only [Bool.and_eq_true, decide_eq_true_eq] at hm
    refine ⟨fun e => ?_, hm.2⟩
    have := hm.1.2
    rw [e, h42] at this
    simp at this
  | num => trivial
  | word => trivial
  | place => trivial

theorem partT_len {l : Line} (hwf : WfL l) {p : Part} (hp : PartOk l p) : (partT l p).length ≤ 10000 := by
  cases p with
  | reg o => have := itoa_len _ (fieldI_rng hwf o).1 (fieldI_rng hwf o).2; show (82 :: _).length ≤ _; rw [List.length_cons]; omega
  | num => have := itoa_len _ hwf.i0 hwf.i1; show (Lib.itoa l.imm).length ≤ _; omega
  | word => have := itoa_len l.n (by have := hwf.n0; omega) (by have := hwf.n1; omega); show (Lib.itoa l.n).length ≤ _; omega
  | place => have := itoa_len _ hwf.l0 hwf.l1; show (76 :: _).length ≤ _; rw [List.length_cons]; omega
  | places =>
    have := join_len 22 (l.list.map fun n => 76 :: Lib.itoa n) (fun y hy => by
      rw [List.mem_map] at hy
      obtain ⟨n, hn, rfl⟩ := hy
      have := itoa_len n (hwf.ls n hn).1 (hwf.ls n hn).2
      rw [List.length_cons]; omega)
    rw [List.length_map] at this
    have := hp.2
    show (Lib.join _ _).length ≤ _
    omega

end Go.Proofs.YtlhgfhmdhmgmpaaGreatDoor

set_option linter.unusedVariables false
set_option linter.unusedSimpArgs false
namespace Go.Proofs.YtlhgfhmdhmgmpaaGreatDoor
open Go.RowKit Go.Proofs.YtlhgfhmdhmgmpaaGreatDoorW.PrintWords Go.Joins Go.Maps

theorem lineM_new (w : World) (l : Line) (A : Option Addr) (c : Nat) (hr : kInt.C w A l.list.length l.list) : LineM (w.alloc (lineO l (.slice A l.list.length c))) w.heap.size l A c :=
  ⟨heap_alloc_new w _, Kd.C_below hr ((Below.refl _ _).alloc (Nat.le_refl _) _)⟩

set_option maxHeartbeats 4000000 in
set_option maxRecDepth 100000 in
theorem text_label (l : Line) (A : Option Addr) (c : Nat) (w : World) (hL : LLaid w) (hr : kInt.C w A l.list.length l.list) (hwf : WfL l) (h0 : l.op = 0) :
    Calls Tryz.prog 23 #[lineV l (.slice A l.list.length c)] w fun e w' => e = .returned (.string ⟨((76 :: Lib.itoa l.label) ++ [58]).toArray⟩) ∧ Below w.heap.size w w' := by
  have f0 : (l.op == 0) = true := beq_iff_eq.mpr h0
  have hM := lineM_new w l A c hr
  have HP := Lib.hid (written_part .place w.heap.size l A c _ (hL.below ((Below.refl _ _).alloc (Nat.le_refl _) _)) hM hwf trivial)
  have hlen := itoa_len l.label hwf.l0 hwf.l1
  have HL := Lib.hid hL
  clear hL hr hwf h0 hM
  unfold lineV
  unfold lineO at HP
  go_enter Tryz.func23, Tryz.ntmps23
  go_wp2_with fail
  refine HP.out.mono ?_
  rintro e w3 ⟨rfl, hb3⟩
  have HB3 := Lib.hid (bt hb3)
  have hl2 : (9223372036854775807 < (Lib.itoa l.label).length + 1 + 1) = False := eq_false (by omega)
  have hp : partT l .place = 76 :: Lib.itoa l.label := rfl
  rw [hp]
  clear hb3 HP hp
  go_wp2_with fail
  go_ret
  exact ⟨congrArg (fun x => Ending.returned (.string x)) (ba_cat (76 :: Lib.itoa l.label) [58]), HB3.out⟩

theorem OwnS.one {B : Nat} (W : World) (x : ByteArray) {g : Nat} (hg : g = W.heap.size) (hB : B ≤ W.heap.size) : OwnS (W.alloc (.cells #[.string x] 9)) B (.slice (some ⟨g, 0, none⟩) 1 1) [x] := by
  subst hg
  exact ⟨rfl, .inr ⟨W.heap.size, 1, #[.string x], rfl, hB, heap_alloc_new W _, Nat.le_refl _, by unfold maxLen; decide, rfl, rfl⟩⟩

theorem own_new {v v' : Value} {h g : Nat} (hat : v'.ownBlock = v.ownBlock ∨ v'.ownBlock = some h) (hn : v.ownBlock ≠ some g) (hlt : g < h) : v'.ownBlock ≠ some g := by
  rcases hat with e | e
  · rw [e]; exact hn
  · rw [e]; intro e2; injection e2 with e2; omega

theorem PCells.below {w w' : World} {b B : Nat} {A : Option Addr} {ps : List Part} (h : PCells w b B A ps) (hb : Below w.heap.size w w') : PCells w' b B A ps := fun i p hi => by
  obtain ⟨g, h1, h2, h3⟩ := h i p hi
  exact ⟨g, h1, h2, kp hb h3⟩

theorem PCells.grown {w w' : World} {b B : Nat} {A : Option Addr} {ps : List Part} {row : Option Nat} (h : PCells w b B A ps) (hg : w.grownBy w' row) (hne : ∀ (i : Nat) (p : Part), ps[i]? = some p → ∀ g, A = some ⟨g, 0, none⟩ → some g ≠ row) : PCells w' b B A ps := fun i p hi => by
  obtain ⟨g, h1, h2, h3⟩ := h i p hi
  refine ⟨g, h1, h2, ?_⟩
  have hb := hg.block g (lt_of_cell h3) (hne i p hi g h1)
  have : w'.cell? ⟨g, i, none⟩ = w.cell? ⟨g, i, none⟩ := by simp only [World.cell?, hb]
  rw [this]; exact h3

theorem opNames_short : opNames.all (fun x => decide (x.length ≤ 4)) = true := by kernel_rfl

theorem nameS_len (k : Nat) : (nameS k).data.toList.length ≤ 4 := by
  show (opNames.getD k []).length ≤ 4
  rw [List.getD_eq_getElem?_getD]
  cases h : opNames[k]? with
  | none => exact Nat.zero_le _
  | some x => exact of_decide_eq_true (List.all_eq_true.1 opNames_short x (List.mem_of_getElem? h))

set_option maxHeartbeats 4000000 in
set_option maxRecDepth 100000 in
theorem text_other (l : Line) (A : Option Addr) (c : Nat) (w : World) (hL : LLaid w) (hr : kInt.C w A l.list.length l.list) (hwf : WfL l) (h0 : 1 ≤ l.op) (h1 : l.op ≤ 48) (hf : fitsP l = true) :
    Calls Tryz.prog 23 #[lineV l (.slice A l.list.length c)] w fun e w' => e = .returned (.string ⟨(Lib.join (opNames.getD (l.op.toNat - 1) [] :: (partsP l.op).map (partT l)) [32]).toArray⟩) ∧ Below w.heap.size w w' := by
  obtain ⟨k, hk⟩ : ∃ k : Nat, l.op = (k : Int) + 1 := ⟨l.op.toNat - 1, by omega⟩
  have hk48 : k < 48 := by omega
  have f0 : ((k : Int) + 1 == 0) = false := beq_eq_false_iff_ne.mpr (by omega)
  have hM := lineM_new w l A c hr
  have HL := Lib.hid hL
  obtain ⟨W1, hW1⟩ : ∃ W1, W1 = w.alloc (lineO l (.slice A l.list.length c)) := ⟨_, rfl⟩
  have hB1 : Below w.heap.size w W1 := by rw [hW1]; exact (Below.refl _ _).alloc (Nat.le_refl _) _
  have hlt1 : w.heap.size < W1.heap.size := by rw [hW1]; simp
  rw [← hW1] at hM
  have hc0 : W1.cell? ⟨w.heap.size, 0, none⟩ = some (.int .i64 ((k : Int) + 1)) := by rw [cell_of_block hM.blk, ← hk]; rfl
  have HM := Lib.hid hM
  have HK := Lib.hid hk
  have HB1 := Lib.hid hB1
  have HL1 := Lib.hid (hL.below hB1)
  have HW1 := Lib.hid hW1
  have HWF := Lib.hid hwf
  have HFT := Lib.hid hf
  clear hL hr h0 h1 hM hW1 hB1 hwf hf
  unfold lineV
  rw [hk]
  clear hk
  go_enter Tryz.func23, Tryz.ntmps23
  go_upto_region 3 with fail
  have hWW : w.alloc (.cells #[.int .i64 ((k : Int) + 1), .int .i64 l.a, .int .i64 l.b, .int .i64 l.imm, .int .u32 l.n, .int .i64 l.label, .slice A l.list.length c] 49) = W1 := by rw [HW1.out]; unfold lineO; rw [HK.out]
  rw [hWW]
  clear hWW
  have hkw : IntKind.i64.wrap ((k : Int) + 1 - 1) = (k : Int) := by rw [show (k : Int) + 1 - 1 = k by omega]; exact IntWalk.i64_in _ (by omega)
  have hkw2 : IntKind.i64.wrap (k : Int) = (k : Int) := IntWalk.i64_in _ (by omega)
  have hk0 : (0 : Int) ≤ (k : Int) := Int.natCast_nonneg _
  have hk1 : (k : Int) < 48 := by omega
  have hnm := names_cell k hk48
  go_cut [3] from 14 to 20 (fun s wx => Hid (OwnS wx W1.heap.size s [nameS k]) ∧ Hid (Below W1.heap.size W1 wx))
  case first =>
    go_region_with ((go_at_call 51; refine (fields_names _ (by kernel_rfl) _ ?_).mono ?_; exact HL1.out.below ((Below.refl _ _).drew); rintro e w' ⟨rfl, rfl⟩))
    all_goals go_wp2_with fail
    all_goals go_meet
    all_goals exact ⟨Lib.hid (OwnS.one (W1.alloc namesO) (nameS k) (by simp) (by simp)), Lib.hid (Below.drew (((Below.refl _ _).alloc (Nat.le_refl _) _).alloc (by simp) _))⟩
  case rest =>
    obtain ⟨hO2, hB2⟩ := hcut
    have hc2 := kp hB2.out hc0
    have hwb := hB2.out.size
    have HM2 := Lib.hid (HM.out.below hB2.out)
    have HC2 := Lib.hid hc2
    clear hc0 hkw hkw2 hnm hc2
    go_wp2_with fail
    refine (parts_any w.heap.size ((k : Int) + 1) wc HC2.out).mono ?_
    rintro e w3 ⟨A8, c8, rfl, hcells, hb3⟩
    obtain ⟨ps, hps⟩ : ∃ ps, ps = partsP ((k : Int) + 1) := ⟨_, rfl⟩
    have hp3 : ps.length ≤ 3 := by rw [hps]; exact partsP_len _
    rw [← hps] at hcells
    have HPS := Lib.hid hps
    have HPC := Lib.hid (show PCells w3 w.heap.size wc.heap.size A8 ps from hcells)
    have HM3 := Lib.hid (HM2.out.below hb3)
    have HO3 := Lib.hid (hO2.out.below hb3)
    have HB3 := Lib.hid (bj hB2.out hb3)
    have HN3 := Lib.hid (show ∀ g, wc.heap.size ≤ g → u3.ownBlock ≠ some g from fun g hg e => by have := own_lt hO2.out g e; omega)
    have HOK := Lib.hid (show ∀ p ∈ ps, PartOk l p from fun p hp => partOk_of HFT.out (by rw [HK.out, ← HPS.out]; exact hp))
    clear hcells hb3 hO2 hB2 hps
    rw [← HPS.out]
    go_wp2_with fail
    go_loopw [3, 23] (fun v s wr => ∃ j : Nat, j ≤ ps.length ∧ s = .int .i64 j ∧ Hid (OwnS wr W1.heap.size v (nameS k :: (ps.take j).map fun p => ⟨(partT l p).toArray⟩)) ∧ Hid (∀ (i : Nat) (p : Part), ps[i]? = some p → ∀ g, A8 = some ⟨g, 0, none⟩ → v.ownBlock ≠ some g) ∧ Hid (PCells wr w.heap.size wc.heap.size A8 ps) ∧ Hid (LineM wr w.heap.size l A c) ∧ Hid (Below W1.heap.size W1 wr)) (fun _ s _ => ps.length - (intOf s).toNat)
    case atStart =>
      exact ⟨0, Nat.zero_le _, rfl, HO3, Lib.hid (fun i p hi g hA => HN3.out g (by obtain ⟨g', h1, h2, _⟩ := HPC.out i p hi; rw [hA] at h1; cases h1; exact h2)), HPC, HM3, HB3⟩
    case round =>
      obtain ⟨j, hj, rfl, hO, hN, hP, hM, hB⟩ := hrel
      by_cases hlt : j < ps.length
      · obtain ⟨g, hA, hg, hcx⟩ := hP.out j _ (List.getElem?_eq_getElem hlt)
        have HPK := Lib.hid (List.getElem?_eq_getElem hlt : ps[j]? = some ps[j])
        generalize ps[j] = p at hcx HPK
        subst hA
        have hx0 : (0 : Int) ≤ (j : Int) := Int.natCast_nonneg _
        have hx1 : (j : Int) < (ps.length : Int) := by omega
        have HW := Lib.hid (written_part p w.heap.size l A c wr (HL1.out.below hB.out) hM.out HWF.out (HOK.out p (List.mem_of_getElem? HPK.out)))
        go_wp2_with fail
        refine HW.out.mono ?_
        rintro e w4 ⟨rfl, hb4⟩
        have hb5 := hb4.alloc (Nat.le_trans (Nat.le_refl _) hb4.size) (.cells #[.string ⟨(partT l p).toArray⟩] 9)
        have HB5 := Lib.hid (bj hB.out hb5)
        have HO5 := Lib.hid (hO.out.below hb5)
        have HP5 := Lib.hid (hP.out.below hb5)
        have HG5 := Lib.hid (show g < wr.heap.size from lt_of_cell hcx)
        have HS5 := Lib.hid hb5.size
        have HL5 := Lib.hid (show (nameS k :: (ps.take j).map fun p => (⟨(partT l p).toArray⟩ : ByteArray)).length + 1 ≤ 1000000000 by rw [List.length_cons, List.length_map, List.length_take]; omega)
        have HTS := Lib.hid (show (nameS k :: (ps.take j).map fun p => (⟨(partT l p).toArray⟩ : ByteArray)) ++ [⟨(partT l p).toArray⟩] = nameS k :: (ps.take (j + 1)).map fun p => (⟨(partT l p).toArray⟩ : ByteArray) by rw [take_snoc HPK.out, List.map_append]; rfl)
        clear hb4 hb5 HW hcx
        go_wp2_with (at_builtin; refine as_list rfl (.tmp 27) (.tmp 30) rfl W1.heap.size u3 _ rfl HO5.out ⟨w4.heap.size, 0, none⟩ 1 ⟨(partT l p).toArray⟩ rfl (kn 0 rfl) HL5.out HB5.out.size ?_; intro v6 w6 ho6 hg6 hat6; rw [HTS.out] at ho6; have HO6 := Lib.hid ho6; have HB6 := Lib.hid (HB5.out.grown hg6 HB5.out.size (base_le_of HO5.out)); have HP6 := Lib.hid (HP5.out.grown hg6 (fun i q hi g' hA => by cases hA; exact fun e => hN.out i q hi g rfl e.symm)); have HN6 := Lib.hid (show ∀ (i : Nat) (q : Part), ps[i]? = some q → ∀ g', some (⟨g, 0, none⟩ : Addr) = some ⟨g', 0, none⟩ → v6.ownBlock ≠ some g' from fun i q hi g' hA => by cases hA; exact own_new hat6 (hN.out i q hi g rfl) (by have := HG5.out; have := HS5.out; omega)); clear ho6 hg6 hat6)
        go_roundw
        case rel => exact ⟨j + 1, hlt, by go_num, HO6, HN6, HP6, Lib.hid (HM.out.below HB6.out), HB6⟩
        case measure => simp [intOf]; omega
      · have hje : j = ps.length := by omega
        subst hje
        clear hlt
        rw [List.take_length] at hO
        have HJ := Lib.hid (hO.out.open_ (by simp))
        have hjl := join_len 10000 ((nameS k :: ps.map fun p => (⟨(partT l p).toArray⟩ : ByteArray)).map (·.data.toList)) (fun y hy => by
          rw [List.map_cons, List.mem_cons, List.map_map, List.mem_map] at hy
          rcases hy with rfl | ⟨p, hp, rfl⟩
          · exact Nat.le_trans (nameS_len k) (by decide)
          · exact partT_len HWF.out (HOK.out p hp))
        have hll : (nameS k :: ps.map fun p => (⟨(partT l p).toArray⟩ : ByteArray)).length = ps.length + 1 := by rw [List.length_cons, List.length_map]
        rw [List.length_map, hll] at hjl
        have HJL := Lib.hid hjl
        clear hjl hO
        obtain ⟨g, c9, rfl, hg1, hg2, hg3, hg4⟩ := HJ.out
        rw [hll] at hg3
        have HC := Lib.hid (Tryz.strings_Join g 0 c9 (nameS k :: ps.map fun p => (⟨(partT l p).toArray⟩ : ByteArray)) ⟨#[32]⟩ wr hg4 hg2 (by rw [hll]; omega) (by rw [hll]; exact hg3) (by have : (⟨#[32]⟩ : ByteArray).data.toList = [32] := rfl; rw [this]; have := HJL.out; have : (10000 + 1) * (ps.length + 1) ≤ 10001 * 4 := Nat.mul_le_mul_left _ (by omega); omega))
        rw [hll] at HC
        clear hg1 hg2 hg3 hg4
        rw [hll]
        clear hll
        go_wp2_with fail
        refine HC.out.mono ?_
        rintro e w4 ⟨rfl, hb4⟩
        have HB4 := Lib.hid (bj HB1.out (bj hB.out hb4))
        clear hb4
        go_wp2_with fail
        go_ret
        refine ⟨?_, HB4.out⟩
        rw [← HPS.out, show ((k : Int) + 1).toNat - 1 = k by omega]
        rfl

end Go.Proofs.YtlhgfhmdhmgmpaaGreatDoor

set_option linter.unusedVariables false
set_option linter.unusedSimpArgs false
namespace Go.Proofs.YtlhgfhmdhmgmpaaGreatDoor
open Go.RowKit Go.Proofs.YtlhgfhmdhmgmpaaGreatDoorW.PrintWords Go.Joins Go.Maps

theorem builder_write (B b : Nat) (bs : List Value) (s : ByteArray) (w : World) (h : Lib.IsBuilder 54 5 B b bs w) (hlen : bs.length + s.size ≤ 140737488355328) (hBw : B ≤ w.heap.size) :
    Calls Tryz.prog 22 #[.pointer (some ⟨b, 0, none⟩), .string s] w fun e w' => e = .returned (.tuple #[.int .i64 s.size, .nilIface]) ∧ (Lib.BuilderAt 54 5 B b (.pointer (some ⟨b, 0, none⟩)) (bs ++ Lib.strCells s) w' ∧ Below B w w') :=
  Any.Builder_WriteString (P := Tryz.prog) (ρ := Tryz.lays156_ren) { Tryz.lays156 with } Tryz.Builder_Extra_156 B b bs s w h hlen hBw

theorem builderAt_below {T e : TypeId} {B b : Nat} {p : Value} {bs : List Value} {w w' : World} (h : Lib.BuilderAt T e B b p bs w) (hb : Below w.heap.size w w') : Lib.BuilderAt T e B b p bs w' := by
  obtain ⟨h1, v, h2, h3, h4⟩ := h
  exact ⟨h1, v, (hb.block b (Array.getElem?_eq_some_iff.1 h2).1).trans h2, li_own_below h3 hb, h4⟩

theorem isBuilder_below {T e : TypeId} {B b : Nat} {bs : List Value} {w w' : World} (h : Lib.IsBuilder T e B b bs w) (hb : Below w.heap.size w w') : Lib.IsBuilder T e B b bs w' := h.imp (builderAt_below · hb) (builderAt_below · hb)

theorem may_op {l : Line} (h : mayP l = true) (h0 : l.op ≠ 0) : 1 ≤ l.op ∧ l.op ≤ 48 ∧ fitsP l = true := by
  unfold mayP at h
  rw [if_neg h0, Bool.and_eq_true] at h
  have he := h.2
  unfold endP at he
  simp only [Bool.and_eq_true, decide_eq_true_eq] at he
  have := he.1.1.1
  have hf : formOf l.op ≠ 9 := fun e => by
    unfold enc at this
    rw [if_pos e] at this
    exact absurd this (by decide)
  have := formOf_no _ hf
  exact ⟨this.1, this.2, h.1⟩

theorem text_any (l : Line) (A : Option Addr) (c : Nat) (w : World) (hL : LLaid w) (hr : kInt.C w A l.list.length l.list) (hwf : WfL l) (hm : mayP l = true) :
    Calls Tryz.prog 23 #[lineV l (.slice A l.list.length c)] w fun e w' => e = .returned (.string ⟨(textP l).toArray⟩) ∧ Below w.heap.size w w' := by
  unfold textP
  split
  · exact text_label l A c w hL hr hwf ‹_›
  · have := may_op hm ‹_›
    exact text_other l A c w hL hr hwf this.1 this.2.1 this.2.2

theorem textP_len {l : Line} (hwf : WfL l) (hm : mayP l = true) : (textP l).length ≤ 40004 := by
  unfold textP
  split
  · have := itoa_len _ hwf.l0 hwf.l1
    rw [List.length_append, List.length_cons]
    show _ + 1 + 1 ≤ _
    omega
  · rename_i h0
    have hf := (may_op hm h0).2.2
    have := join_len 10000 (opNames.getD (l.op.toNat - 1) [] :: (partsP l.op).map (partT l)) (fun y hy => by
      rw [List.mem_cons, List.mem_map] at hy
      rcases hy with rfl | ⟨p, hp, rfl⟩
      · exact Nat.le_trans (nameS_len _) (by decide)
      · exact partT_len hwf (partOk_of hf hp))
    rw [List.length_cons, List.length_map] at this
    have h3 := partsP_len l.op
    have : (10000 + 1) * ((partsP l.op).length + 1) ≤ 10001 * 4 := Nat.mul_le_mul_left _ (by omega)
    omega

/-- The text of a list's lines. -/
def bodyP (ls : List Line) : List UInt8 := (ls.map fun l => textP l ++ [10]).flatten

def printP (ls : List Line) : List UInt8 × Int := if 60000 < ls.length then ([], 2) else if ls.all mayP = true then (bodyP ls, 0) else ([], 1)

theorem bodyP_len : ∀ (ls : List Line), (∀ l ∈ ls, WfL l ∧ mayP l = true) → (bodyP ls).length ≤ 40005 * ls.length
  | [], _ => by simp [bodyP]
  | l :: r, h => by
    have h1 := bodyP_len r (fun x hx => h x (by simp [hx]))
    have h2 := textP_len (h l (by simp)).1 (h l (by simp)).2
    have e : bodyP (l :: r) = (textP l ++ [10]) ++ bodyP r := by simp [bodyP]
    rw [e, List.length_append, List.length_append]
    simp only [List.length_cons, List.length_nil]
    omega

theorem bodyP_snoc (ls : List Line) (l : Line) : bodyP (ls ++ [l]) = bodyP ls ++ (textP l ++ [10]) := by simp [bodyP]

set_option maxHeartbeats 4000000 in
set_option maxRecDepth 100000 in
theorem print_any (ls : List Line) (A : Option Addr) (c : Nat) (w : World) (hL : LLaid w) (hl : Lines w (.slice A ls.length c) ls) (hwf : ∀ l ∈ ls, WfL l) :
    Calls Tryz.prog 8 #[.slice A ls.length c] w fun e w' => e = .returned (.tuple #[.string ⟨(printP ls).1.toArray⟩, .int .i64 (printP ls).2]) ∧ Below w.heap.size w w' := by
  have HL := Lib.hid hL
  have HLN := Lib.hid hl
  have HWF := Lib.hid hwf
  clear hL hl hwf
  by_cases hbig : 60000 < ls.length
  · have e : printP ls = ([], 2) := by unfold printP; rw [if_pos hbig]
    have hd : decide ((60000 : Int) < (ls.length : Int)) = true := decide_eq_true (by omega)
    rw [e]
    clear e
    go_enter Tryz.func8, Tryz.ntmps8
    go_wp2_with fail
    go_ret2
    exact ⟨rfl, Below.refl _ _⟩
  have hd : decide ((60000 : Int) < (ls.length : Int)) = false := decide_eq_false (by omega)
  have hle : ls.length ≤ 60000 := by omega
  have HP := Lib.hid (show ∀ R, (if ls.all mayP = true then (bodyP ls, 0) else ([], 1)) = R → printP ls = R from fun R h => by unfold printP; rw [if_neg hbig, h])
  clear hbig
  go_enter Tryz.func8, Tryz.ntmps8
  go_wp2_with fail
  go_loopw [14] (fun s wr => ∃ k : Nat, k ≤ ls.length ∧ s = .int .i64 k ∧ Hid ((ls.take k).all mayP = true) ∧ Hid (Below w.heap.size w wr)) (fun s _ => ls.length - (intOf s).toNat)
  case atStart => exact ⟨0, Nat.zero_le _, rfl, Lib.hid rfl, Lib.hid (Below.refl _ _)⟩
  case round =>
    obtain ⟨k, hk, rfl, hall, hB⟩ := hrel
    by_cases hlt : k < ls.length
    · obtain ⟨ad, l, v, hA, hli, hat, hv⟩ := (HLN.out.below hB.out).at_ k hlt
      obtain ⟨A2, c2, rfl, hr2⟩ := hv
      obtain ⟨k0, k1, k2, k3, k4, k5, k6⟩ := hat
      subst hA
      have hx0 : (0 : Int) ≤ (k : Int) := Int.natCast_nonneg _
      have hx1 : (k : Int) < (ls.length : Int) := by omega
      have HLI := Lib.hid hli
      have HR2 := Lib.hid hr2
      clear hli hr2
      go_wp2_with fail
      have hb1 : Below wr.heap.size wr (wr.alloc (lineO l (.slice A2 l.list.length c2))) := (Below.refl _ _).alloc (Nat.le_refl _) _
      have hm := may_any l A2 c2 _ ((HL.out.below hB.out).below hb1) (Kd.C_below HR2.out hb1)
      unfold lineV lineO at hm
      refine hm.mono ?_
      rintro e w3 ⟨rfl, hb3⟩
      have HB3 := Lib.hid (bj hB.out (bt hb3))
      clear hb1 hm hb3 k0 k1 k2 k3 k4 k5 k6
      cases hml : mayP l with
      | true =>
        have HA := Lib.hid (show (ls.take (k + 1)).all mayP = true by rw [List.take_add_one, HLI.out, List.all_append, hall.out]; simp [hml])
        clear hml
        go_wp2_with fail
        go_roundw
        case rel => exact ⟨k + 1, hlt, by go_num, HA, HB3⟩
        case measure => simp [intOf]; omega
      | false =>
        have HE := Lib.hid (HP.out ([], 1) (by rw [if_neg (by rw [List.all_eq_true]; intro h; have := h l (List.mem_of_getElem? HLI.out); rw [hml] at this; cases this)]))
        clear hml
        go_wp2_with fail
        go_ret2
        exact ⟨by rw [HE.out]; rfl, HB3.out⟩
    · have hke : k = ls.length := by omega
      subst hke
      clear hlt
      rw [List.take_length] at hall
      have HE := Lib.hid (HP.out (bodyP ls, 0) (by rw [if_pos hall.out]))
      have HA := Lib.hid (List.all_eq_true.1 hall.out)
      clear HP
      obtain ⟨w9, rfl⟩ : ∃ w9, w9 = wr := ⟨_, rfl⟩
      go_wp2_with fail
      have hfb := Lib.fresh_isBuilder 54 5 w9
      have hWb : Below w9.heap.size w9 (w9.alloc (.cells #[.pointer none, .slice none 0 0] 54)) := (Below.refl _ _).alloc (Nat.le_refl _) _
      have HFB := Lib.hid hfb
      have HWB := Lib.hid hWb
      clear hfb hWb
      go_loopw [24] (fun s wy => ∃ j : Nat, j ≤ ls.length ∧ s = .int .i64 j ∧ Hid (Lib.IsBuilder 54 5 w9.heap.size w9.heap.size (Lib.byteCells (bodyP (ls.take j))) wy) ∧ Hid (Below w9.heap.size w9 wy)) (fun s _ => ls.length - (intOf s).toNat)
      case atStart => exact ⟨0, Nat.zero_le _, rfl, HFB, HWB⟩
      case round =>
        obtain ⟨j, hj, rfl, hBu, hB2⟩ := hrel
        by_cases hlt : j < ls.length
        · obtain ⟨ad, l, v, hA, hli, hat, hv⟩ := (HLN.out.below (bj hB.out hB2.out)).at_ j hlt
          obtain ⟨A2, c2, rfl, hr2⟩ := hv
          obtain ⟨k0, k1, k2, k3, k4, k5, k6⟩ := hat
          subst hA
          have hx0 : (0 : Int) ≤ (j : Int) := Int.natCast_nonneg _
          have hx1 : (j : Int) < (ls.length : Int) := by omega
          have HLI := Lib.hid hli
          have HR2 := Lib.hid hr2
          clear hli hr2
          go_wp2_with fail
          have hmem := List.mem_of_getElem? HLI.out
          have hb1 : Below wr.heap.size wr (wr.alloc (lineO l (.slice A2 l.list.length c2))) := (Below.refl _ _).alloc (Nat.le_refl _) _
          have hm := text_any l A2 c2 _ ((HL.out.below (bj hB.out hB2.out)).below hb1) (Kd.C_below HR2.out hb1) (HWF.out l hmem) (HA.out l hmem)
          unfold lineV lineO at hm
          refine hm.mono ?_
          rintro e w3 ⟨rfl, hb3⟩
          have hl1 := textP_len (HWF.out l hmem) (HA.out l hmem)
          have hl2 : (9223372036854775807 < (textP l).length + 1) = False := eq_false (by omega)
          have hl3 := bodyP_len (ls.take j) (fun x hx => ⟨HWF.out x (List.mem_of_mem_take hx), HA.out x (List.mem_of_mem_take hx)⟩)
          have hl4 : (ls.take j).length ≤ 60000 := by rw [List.length_take]; omega
          have hcat := ba_cat (textP l) [10]
          have hcat2 : (⟨[10].toArray⟩ : ByteArray) = ⟨#[10]⟩ := rfl
          rw [hcat2] at hcat
          have HCAT := Lib.hid hcat
          have HBu3 := Lib.hid (isBuilder_below hBu.out (bt hb3))
          have HB3 := Lib.hid (Nat.le_trans hB2.out.size (bt hb3).size)
          have hw := builder_write w9.heap.size w9.heap.size (Lib.byteCells (bodyP (ls.take j))) ((⟨(textP l).toArray⟩ : ByteArray) ++ ⟨#[10]⟩) w3 HBu3.out (by
            rw [hcat, Lib.byteCells_length]
            show _ + (textP l ++ [10]).toArray.size ≤ _
            rw [List.size_toArray, List.length_append]
            simp only [List.length_cons, List.length_nil]
            omega) HB3.out
          have HW := Lib.hid hw
          have HBL := Lib.hid (hB2.out.trans ((bt hb3).mono hB2.out.size))
          have HTS := Lib.hid (show Lib.byteCells (bodyP (ls.take j)) ++ Lib.strCells ((⟨(textP l).toArray⟩ : ByteArray) ++ ⟨#[10]⟩) = Lib.byteCells (bodyP (ls.take (j + 1))) by
            rw [hcat, Lib.strCells_eq, List.take_add_one, HLI.out]
            show _ ++ Lib.byteCells (textP l ++ [10]) = Lib.byteCells (bodyP (ls.take j ++ [l]))
            rw [bodyP_snoc]
            simp [Lib.byteCells])
          clear hm hb1 hb3 hl1 hl3 hl4 hcat hcat2 hw k0 k1 k2 k3 k4 k5 k6 hmem
          go_wp2_with fail
          refine HW.out.mono ?_
          rintro e w4 ⟨rfl, hb4, hb5⟩
          rw [HTS.out] at hb4
          have HB5 := Lib.hid (HBL.out.trans hb5)
          have HBu4 := Lib.hid (show Lib.IsBuilder 54 5 w9.heap.size w9.heap.size (Lib.byteCells (bodyP (ls.take (j + 1)))) w4 from .inr hb4)
          clear hb4 hb5
          go_wp2_with fail
          go_roundw
          case rel => exact ⟨j + 1, hlt, by go_num, HBu4, HB5⟩
          case measure => simp [intOf]; omega
        · have hje : j = ls.length := by omega
          subst hje
          clear hlt
          rw [List.take_length] at hBu
          have HS : Hid (Calls Tryz.prog 24 #[.pointer (some ⟨w9.heap.size, 0, none⟩)] wr fun e w' => e = .returned (.string ⟨(bodyP ls).toArray⟩) ∧ Below w9.heap.size wr w') := by
            refine Lib.hid ?_
            by_cases hne : bodyP ls = []
            · rw [hne] at hBu ⊢
              exact Tryz.Builder_String_empty w9.heap.size w9.heap.size wr hBu.out hB2.out.size
            · exact Tryz.Builder_String w9.heap.size w9.heap.size (bodyP ls) wr hBu.out hne
          go_wp2_with fail
          refine HS.out.mono ?_
          rintro e w4 ⟨rfl, hb4⟩
          have HB4 := Lib.hid (hB.out.trans ((hB2.out.trans hb4).mono hB.out.size))
          clear hb4
          go_wp2_with fail
          go_ret2
          exact ⟨by rw [HE.out]; rfl, HB4.out⟩

end Go.Proofs.YtlhgfhmdhmgmpaaGreatDoor
