/- list.may: walked. -/
import Derived.Test.YtlhgfhmdhmgmpaaGreatDoorLiC
set_option linter.unusedVariables false
set_option linter.unusedSimpArgs false
namespace Go.Proofs.YtlhgfhmdhmgmpaaGreatDoor
open Go.RowKit Go.Proofs.YtlhgfhmdhmgmpaaGreatDoorW.PrintWords Go.Joins Go.Maps

def inLab (n : Int) : Bool := decide (0 ≤ n ∧ n ≤ 100000)

theorem out_any (n : Int) (w : World) : Calls Tryz.prog 45 #[.int .i64 n] w fun e w' => e = .returned (.bool (!inLab n)) ∧ w = w' := by
  by_cases h0 : n < 0
  · have e : inLab n = false := decide_eq_false (by omega)
    rw [e]
    go_enter Tryz.func45, Tryz.ntmps45
    go_wp2
    go_ret
    exact ⟨rfl, rfl⟩
  · by_cases h1 : n ≤ 100000
    · have e : inLab n = true := decide_eq_true (by omega)
      have h2 : decide ((100000 : Int) < n) = false := decide_eq_false (by omega)
      rw [e]
      go_enter Tryz.func45, Tryz.ntmps45
      go_wp2
      go_ret
      exact ⟨rfl, rfl⟩
    · have e : inLab n = false := decide_eq_false (by omega)
      have h2 : decide ((100000 : Int) < n) = true := decide_eq_true (by omega)
      have h3 : decide (n < 0) = false := decide_eq_false (by omega)
      rw [e]
      clear h1
      go_enter Tryz.func45, Tryz.ntmps45
      go_wp2
      go_ret
      exact ⟨rfl, rfl⟩

def OutIx (xs : List Int) (w : World) (e : Ending) (w' : World) : Prop := (∃ n : Int, e = .returned (.int .i64 n) ∧ (0 ≤ n ↔ xs.all inLab = false)) ∧ w = w'

set_option maxRecDepth 100000 in
theorem indexOut_any (A : Option Addr) (c : Nat) (xs : List Int) (w : World) (hr : kInt.C w A xs.length xs) (hlen : xs.length ≤ 1000000000) :
    Calls Tryz.prog 90 #[.slice A xs.length c, .func (.func 45) #[] #[]] w (OutIx xs w) := by
  have HR := Lib.hid hr
  clear hr
  go_enter Tryz.func90, Tryz.ntmps90
  go_wp2_with fail
  go_loop [8] (fun s => ∃ k : Nat, k ≤ xs.length ∧ s = .int .i64 k ∧ Hid ((xs.take k).all inLab = true)) (fun s => xs.length - (intOf s).toNat)
  case atStart => exact ⟨0, Nat.zero_le _, rfl, Lib.hid rfl⟩
  case round =>
    obtain ⟨k, hk, rfl, hall⟩ := hrel
    by_cases hlt : k < xs.length
    · obtain ⟨ad, x, hA, hx, hcx⟩ := kints_at HR.out k hlt
      subst hA
      have hx0 : (0 : Int) ≤ (k : Int) := Int.natCast_nonneg _
      have hx1 : (k : Int) < (xs.length : Int) := by omega
      have HX := Lib.hid hx
      clear hx
      have hts : (xs.take (k + 1)).all inLab = inLab x := by
        rw [List.take_add_one, HX.out, List.all_append, hall.out]; simp
      have HTS := Lib.hid hts
      have HX2 := Lib.hid (show inLab x = false → xs.all inLab = false from fun h => by
        rw [List.all_eq_false]; exact ⟨x, List.mem_of_getElem? HX.out, by rw [h]; simp⟩)
      clear hts
      cases hb : inLab x with
      | true =>
        have hnb : (!inLab x) = false := by rw [hb]; rfl
        have HOA := Lib.hid (out_any x w)
        rw [hnb] at HOA
        rw [hb] at HTS
        clear hb hnb HX2
        go_wp2_with (go_at_call 45; refine HOA.out.mono ?_; rintro e w' ⟨rfl, rfl⟩)
        go_round
        case rel => exact ⟨k + 1, hlt, by go_num, HTS⟩
        case measure => simp [intOf]; omega
      | false =>
        have hnb : (!inLab x) = true := by rw [hb]; rfl
        have HOA := Lib.hid (out_any x w)
        rw [hnb] at HOA
        have HF := Lib.hid (HX2.out hb)
        clear hb hnb HX2 HTS
        go_wp2_with (go_at_call 45; refine HOA.out.mono ?_; rintro e w' ⟨rfl, rfl⟩)
        go_ret
        exact ⟨⟨_, rfl, by rw [HF.out]; simp⟩, rfl⟩
    · have hke : k = xs.length := by omega
      subst hke
      clear hlt
      rw [List.take_length] at hall
      go_wp2_with fail
      go_ret
      exact ⟨⟨_, rfl, by rw [hall.out]; simp⟩, rfl⟩

theorem containsOut_any (A : Option Addr) (c : Nat) (xs : List Int) (w : World) (hr : kInt.C w A xs.length xs) (hlen : xs.length ≤ 1000000000) :
    Calls Tryz.prog 48 #[.slice A xs.length c, .func (.func 45) #[] #[]] w fun e w' => e = .returned (.bool (!xs.all inLab)) ∧ w = w' := by
  have HR := Lib.hid hr
  clear hr
  go_enter Tryz.func48, Tryz.ntmps48
  go_wp2_with fail
  refine (indexOut_any A c xs w HR.out hlen).mono ?_
  rintro e w' ⟨⟨n, rfl, hn⟩, rfl⟩
  cases hb : xs.all inLab with
  | true =>
    have h1 : decide (0 ≤ n) = false := decide_eq_false (fun h => by rw [hn.1 h] at hb; cases hb)
    have HB := Lib.hid hb
    clear hn hb
    go_wp2_with fail
    go_ret
    exact ⟨by rw [HB.out]; rfl, rfl⟩
  | false =>
    have h1 : decide (0 ≤ n) = true := decide_eq_true (hn.2 hb)
    have HB := Lib.hid hb
    clear hn hb
    go_wp2_with fail
    go_ret
    exact ⟨by rw [HB.out]; rfl, rfl⟩

/-! ### may -/
def hN (l : Line) (ps : List Part) : Int := if Part.word ∈ ps then l.n else 0
def hLb (l : Line) (ps : List Part) : Int := if Part.place ∈ ps then l.label else 0
def hS (v : Value) (ps : List Part) : Value := if Part.places ∈ ps then v else .slice none 0 0
def hSl (l : Line) (ps : List Part) : Nat := if Part.places ∈ ps then l.list.length else 0

def fitsP (l : Line) : Bool := decide (hN l (partsP l.op) = l.n) && decide (hLb l (partsP l.op) = l.label) && decide (hSl l (partsP l.op) = l.list.length) && (decide (l.list.length = 0) != decide (l.op = 42)) && decide (l.list.length ≤ 400)
def brJ (op : Int) : Bool := decide (30 ≤ op ∧ op ≤ 40)
def endP (l : Line) : Bool := decide ((enc l.op l.a l.b l.imm).2 = 0) && (!brJ l.op || decide (l.imm = 0)) && inLab l.label && l.list.all inLab
def labelP (l : Line) : Bool := decide (l.a = 0) && decide (l.b = 0) && decide (l.imm = 0) && decide (l.n = 0) && decide (l.list.length = 0) && inLab l.label

/-- May a line be? -/
def mayP (l : Line) : Bool := if l.op = 0 then labelP l else fitsP l && endP l

def lineV (l : Line) (v : Value) : Value := .agg #[.int .i64 l.op, .int .i64 l.a, .int .i64 l.b, .int .i64 l.imm, .int .u32 l.n, .int .i64 l.label, v]

set_option maxHeartbeats 4000000 in
set_option maxRecDepth 100000 in
theorem may_label (l : Line) (A : Option Addr) (c : Nat) (w : World) (h0 : l.op = 0) :
    Calls Tryz.prog 21 #[lineV l (.slice A l.list.length c)] w fun e w' => e = .returned (.bool (labelP l)) ∧ Below w.heap.size w w' := by
  obtain ⟨op, a, b, imm, n, label, list⟩ := l
  simp only at h0
  subst h0
  unfold lineV
  simp only
  have HO := Lib.hid (out_any label)
  have HL := Lib.hid (show ∀ R, R = (decide (a = 0) && decide (b = 0) && decide (imm = 0) && decide (n = 0) && decide (list.length = 0) && inLab label) → labelP ⟨0, a, b, imm, n, label, list⟩ = R from fun R h => h.symm)
  by_cases h0 : a = 0
  case neg =>
    have e := HL.out false (by simp [*])
    have f0 : (a == 0) = false := beq_eq_false_iff_ne.mpr h0
    rw [e]
    clear e h0
    go_enter Tryz.func21, Tryz.ntmps21
    go_wp2_with fail
    go_ret
    exact ⟨rfl, (Below.refl _ _).alloc (Nat.le_refl _) _⟩
  case pos =>
    subst h0
    by_cases h1 : b = 0
    case neg =>
      have e := HL.out false (by simp [*])
      have f1 : (b == 0) = false := beq_eq_false_iff_ne.mpr h1
      rw [e]
      clear e h1
      go_enter Tryz.func21, Tryz.ntmps21
      go_wp2_with fail
      go_ret
      exact ⟨rfl, (Below.refl _ _).alloc (Nat.le_refl _) _⟩
    case pos =>
      subst h1
      by_cases h2 : imm = 0
      case neg =>
        have e := HL.out false (by simp [*])
        have f2 : (imm == 0) = false := beq_eq_false_iff_ne.mpr h2
        rw [e]
        clear e h2
        go_enter Tryz.func21, Tryz.ntmps21
        go_wp2_with fail
        go_ret
        exact ⟨rfl, (Below.refl _ _).alloc (Nat.le_refl _) _⟩
      case pos =>
        subst h2
        by_cases h3 : n = 0
        case neg =>
          have e := HL.out false (by simp [*])
          have f3 : (n == 0) = false := beq_eq_false_iff_ne.mpr h3
          rw [e]
          clear e h3
          go_enter Tryz.func21, Tryz.ntmps21
          go_wp2_with fail
          go_ret
          exact ⟨rfl, (Below.refl _ _).alloc (Nat.le_refl _) _⟩
        case pos =>
          subst h3
          by_cases h4 : list.length = 0
          case neg =>
            have e := HL.out false (by simp [*])
            have f4 : ((list.length : Int) == 0) = false := beq_eq_false_iff_ne.mpr (by omega)
            rw [e]
            clear e h4
            go_enter Tryz.func21, Tryz.ntmps21
            go_wp2_with fail
            go_ret
            exact ⟨rfl, (Below.refl _ _).alloc (Nat.le_refl _) _⟩
          case pos =>
            have e := HL.out (inLab label) (by simp [*])
            have f4 : ((list.length : Int) == 0) = true := by rw [h4]; rfl
            rw [e]
            clear e h4
            go_enter Tryz.func21, Tryz.ntmps21
            go_wp2_with (go_at_call 45; refine (HO.out _).mono ?_; rintro e w' ⟨rfl, rfl⟩)
            go_ret
            exact ⟨rfl, (Below.refl _ _).alloc (Nat.le_refl _) _⟩

def lineO (l : Line) (v : Value) : Obj := .cells #[.int .i64 l.op, .int .i64 l.a, .int .i64 l.b, .int .i64 l.imm, .int .u32 l.n, .int .i64 l.label, v] 49

/-- may's own line, behind some parts. -/
def HasB (w : World) (h : Nat) (l : Line) (v : Value) (ps : List Part) : Prop :=
  w.heap[h]? = some (.cells #[.int .i64 0, .int .i64 0, .int .i64 0, .int .i64 0, .int .u32 (hN l ps), .int .i64 (hLb l ps), hS v ps] 49 (0, 0))

theorem take_snoc {ps : List Part} {k : Nat} {p : Part} (h : ps[k]? = some p) : ps.take (k + 1) = ps.take k ++ [p] := by rw [List.take_add_one, h]; rfl

theorem HasB.skip {w : World} {h : Nat} {l : Line} {v : Value} {ps : List Part} {k : Nat} {p : Part} (hb : HasB w h l v (ps.take k)) (hp : ps[k]? = some p) (h1 : p ≠ .word) (h2 : p ≠ .place) (h3 : p ≠ .places) : HasB w h l v (ps.take (k + 1)) := by
  rw [take_snoc hp]
  unfold HasB hN hLb hS at *
  simp only [List.mem_append, List.mem_singleton, Ne.symm h1, Ne.symm h2, Ne.symm h3, or_false]
  exact hb

theorem HasB.word {w : World} {h : Nat} {l : Line} {v : Value} {ps : List Part} {k : Nat} (hb : HasB w h l v (ps.take k)) (hp : ps[k]? = some .word) : HasB (w.setCell ⟨h, 4, none⟩ (.int .u32 l.n)) h l v (ps.take (k + 1)) := by
  rw [take_snoc hp]
  unfold HasB hN hLb hS at *
  rw [block_setCell hb _]
  simp only [List.mem_append, List.mem_singleton, reduceCtorEq, or_false, or_true, if_true]
  rfl

theorem HasB.place {w : World} {h : Nat} {l : Line} {v : Value} {ps : List Part} {k : Nat} (hb : HasB w h l v (ps.take k)) (hp : ps[k]? = some .place) : HasB (w.setCell ⟨h, 5, none⟩ (.int .i64 l.label)) h l v (ps.take (k + 1)) := by
  rw [take_snoc hp]
  unfold HasB hN hLb hS at *
  rw [block_setCell hb _]
  simp only [List.mem_append, List.mem_singleton, reduceCtorEq, or_false, or_true, if_true]
  rfl

theorem HasB.places {w : World} {h : Nat} {l : Line} {v : Value} {ps : List Part} {k : Nat} (hb : HasB w h l v (ps.take k)) (hp : ps[k]? = some .places) : HasB (w.setCell ⟨h, 6, none⟩ v) h l v (ps.take (k + 1)) := by
  rw [take_snoc hp]
  unfold HasB hN hLb hS at *
  rw [block_setCell hb _]
  simp only [List.mem_append, List.mem_singleton, reduceCtorEq, or_false, or_true, if_true]
  rfl

theorem HasB.lt {w : World} {h : Nat} {l : Line} {v : Value} {ps : List Part} (hb : HasB w h l v ps) : h < w.heap.size := (Array.getElem?_eq_some_iff.1 hb).1

theorem partsP_len (op : Int) : (partsP op).length ≤ 3 := by
  unfold partsP
  repeat' split
  all_goals decide

/-- The cells of the parts' slice. -/
def PCells (w : World) (b B : Nat) (A : Option Addr) (ps : List Part) : Prop := ∀ i p, ps[i]? = some p → ∃ g, A = some ⟨g, 0, none⟩ ∧ B ≤ g ∧ w.cell? ⟨g, i, none⟩ = some (pv b p)

theorem PCells.set {w : World} {b B h o : Nat} {A : Option Addr} {ps : List Part} {v : Value} (hp : PCells w b B A ps) (hh : h < B) : PCells (w.setCell ⟨h, o, none⟩ v) b B A ps := fun i p hi => by
  obtain ⟨g, h1, h2, h3⟩ := hp i p hi
  exact ⟨g, h1, h2, by rw [World.cell?_setCell_other _ _ _ _ (by intro e; injection e with e1; omega)]; exact h3⟩

theorem blk_set {w : World} {g h o : Nat} {ob : Obj} {v : Value} (hb : w.heap[g]? = some ob) (hne : g ≠ h) : (w.setCell ⟨h, o, none⟩ v).heap[g]? = some ob := by
  rw [Below.heap_setCell _ _ _ _ hne]; exact hb

attribute [local go_sem] as_reg_reg as_reg_num as_reg_word as_reg_place as_reg_places as_num_reg as_num_num as_num_word as_num_place as_num_places as_word_reg as_word_num as_word_word as_word_place as_word_places as_place_reg as_place_num as_place_word as_place_place as_place_places as_places_reg as_places_num as_places_word as_places_place as_places_places

set_option maxHeartbeats 4000000 in
set_option maxRecDepth 100000 in
theorem may_other (l : Line) (A : Option Addr) (c : Nat) (w : World) (hL : LLaid w) (hr : kInt.C w A l.list.length l.list) (h0 : l.op ≠ 0) :
    Calls Tryz.prog 21 #[lineV l (.slice A l.list.length c)] w fun e w' => e = .returned (.bool (fitsP l && endP l)) ∧ Below w.heap.size w w' := by
  have f0 : (l.op == 0) = false := beq_eq_false_iff_ne.mpr h0
  have HL := Lib.hid hL
  have HR := Lib.hid hr
  clear hL hr h0
  obtain ⟨ps, hps⟩ : ∃ ps, ps = partsP l.op := ⟨_, rfl⟩
  have HPS := Lib.hid hps
  have hp3 : ps.length ≤ 3 := by rw [hps]; exact partsP_len _
  clear hps
  unfold lineV
  go_enter Tryz.func21, Tryz.ntmps21
  go_wp2_with fail
  refine (parts_any w.heap.size l.op _ (ka _ (kn 0 rfl))).mono ?_
  rw [← HPS.out]
  rintro e w3 ⟨A8, c8, rfl, hcells, hb3⟩
  obtain ⟨W1, hW1⟩ : ∃ W1, W1 = w.alloc (lineO l (.slice A l.list.length c)) := ⟨_, rfl⟩
  have hlb : w3.heap[w.heap.size]? = some (.cells #[.int .i64 l.op, .int .i64 l.a, .int .i64 l.b, .int .i64 l.imm, .int .u32 l.n, .int .i64 l.label, .slice A l.list.length c] 49 (0, 0)) := by
    rw [hb3.block _ (by simp; omega), Below.heap_alloc _ _ _ (by simp)]
    exact heap_alloc_new w _
  have hhb : HasB w3 (w.heap.size + 1) l (.slice A l.list.length c) (ps.take 0) := by
    unfold HasB
    rw [hb3.block _ (by simp)]
    have e0 : hN l (ps.take 0) = 0 := by simp [hN]
    have e1 : hLb l (ps.take 0) = 0 := by simp [hLb]
    have e2 : hS (.slice A l.list.length c) (ps.take 0) = .slice none 0 0 := by simp [hS]
    rw [e0, e1, e2]
    have := heap_alloc_new (w.alloc (lineO l (.slice A l.list.length c))) (.cells #[.int .i64 0, .int .i64 0, .int .i64 0, .int .i64 0, .int .u32 0, .int .i64 0, .slice none 0 0] 49)
    rw [show (w.alloc (lineO l (.slice A l.list.length c))).heap.size = w.heap.size + 1 from by simp] at this
    exact this
  have hpc : PCells w3 w.heap.size (w.heap.size + 2) A8 ps := fun i p hi => by
    obtain ⟨g, k1, k2, k3⟩ := hcells i p hi
    exact ⟨g, k1, by simpa using k2, k3⟩
  have hbw : Below w.heap.size w w3 := bt2 hb3
  have HLB := Lib.hid hlb
  have HHB := Lib.hid hhb
  have HPC := Lib.hid hpc
  have HBW := Lib.hid hbw
  clear hlb hhb hpc hbw hb3 hcells hW1
  go_wp2_with fail
  go_loopw [46] (fun s wr => ∃ k : Nat, k ≤ ps.length ∧ s = .int .i64 k ∧ Hid (HasB wr (w.heap.size + 1) l (.slice A l.list.length c) (ps.take k)) ∧ Hid (wr.heap[w.heap.size]? = some (.cells #[.int .i64 l.op, .int .i64 l.a, .int .i64 l.b, .int .i64 l.imm, .int .u32 l.n, .int .i64 l.label, .slice A l.list.length c] 49 (0, 0))) ∧ Hid (PCells wr w.heap.size (w.heap.size + 2) A8 ps) ∧ Hid (Below w.heap.size w wr)) (fun s _ => ps.length - (intOf s).toNat)
  case atStart => exact ⟨0, Nat.zero_le _, rfl, HHB, HLB, HPC, HBW⟩
  case round =>
    obtain ⟨k, hk, rfl, hH, hLn, hP, hB⟩ := hrel
    by_cases hlt : k < ps.length
    · obtain ⟨g, hA, hg, hcx⟩ := hP.out k _ (List.getElem?_eq_getElem hlt)
      have HPK := Lib.hid (List.getElem?_eq_getElem hlt : ps[k]? = some ps[k])
      generalize ps[k] = p at hcx HPK
      subst hA
      have hx0 : (0 : Int) ≤ (k : Int) := Int.natCast_nonneg _
      have hx1 : (k : Int) < (ps.length : Int) := by omega
      cases p with
      | reg o =>
        unfold pv at hcx
        simp only [Part.ty, Part.off] at hcx
        go_wp2_with fail
        go_roundw
        case rel => exact ⟨k + 1, hlt, by go_num, Lib.hid (hH.out.skip HPK.out (by simp) (by simp) (by simp)), hLn, hP, hB⟩
        case measure => simp [intOf]; omega
      | num =>
        unfold pv at hcx
        simp only [Part.ty, Part.off] at hcx
        go_wp2_with fail
        go_roundw
        case rel => exact ⟨k + 1, hlt, by go_num, Lib.hid (hH.out.skip HPK.out (by simp) (by simp) (by simp)), hLn, hP, hB⟩
        case measure => simp [intOf]; omega
      | word =>
        unfold pv at hcx
        simp only [Part.ty, Part.off] at hcx
        have c4 := cell_of_block hLn.out 4
        have d4 := cell_of_block hH.out 4
        have g4 := unfrozen_of_block hH.out 4
        simp only [List.getElem?_toArray, List.getElem?_cons_succ, List.getElem?_cons_zero] at c4 d4
        go_wp2_with fail
        go_roundw
        case rel => exact ⟨k + 1, hlt, by go_num, Lib.hid (hH.out.word HPK.out), Lib.hid (blk_set hLn.out (by omega)), Lib.hid (hP.out.set (by omega)), Lib.hid (hB.out.setCell (by simp) _)⟩
        case measure => simp [intOf]; omega
      | place =>
        unfold pv at hcx
        simp only [Part.ty, Part.off] at hcx
        have c4 := cell_of_block hLn.out 5
        have d4 := cell_of_block hH.out 5
        have g4 := unfrozen_of_block hH.out 5
        simp only [List.getElem?_toArray, List.getElem?_cons_succ, List.getElem?_cons_zero] at c4 d4
        go_wp2_with fail
        go_roundw
        case rel => exact ⟨k + 1, hlt, by go_num, Lib.hid (hH.out.place HPK.out), Lib.hid (blk_set hLn.out (by omega)), Lib.hid (hP.out.set (by omega)), Lib.hid (hB.out.setCell (by simp) _)⟩
        case measure => simp [intOf]; omega
      | places =>
        unfold pv at hcx
        simp only [Part.ty, Part.off] at hcx
        have c4 := cell_of_block hLn.out 6
        have d4 := cell_of_block hH.out 6
        have g4 := unfrozen_of_block hH.out 6
        simp only [List.getElem?_toArray, List.getElem?_cons_succ, List.getElem?_cons_zero] at c4 d4
        go_wp2_with fail
        go_roundw
        case rel => exact ⟨k + 1, hlt, by go_num, Lib.hid (hH.out.places HPK.out), Lib.hid (blk_set hLn.out (by omega)), Lib.hid (hP.out.set (by omega)), Lib.hid (hB.out.setCell (by simp) _)⟩
        case measure => simp [intOf]; omega
    · have hke : k = ps.length := by omega
      subst hke
      clear hlt
      rw [List.take_length] at hH
      have c0 := cell_of_block hLn.out 0
      have c1 := cell_of_block hLn.out 1
      have c2 := cell_of_block hLn.out 2
      have c3 := cell_of_block hLn.out 3
      have c4 := cell_of_block hLn.out 4
      have c5 := cell_of_block hLn.out 5
      have c6 := cell_of_block hLn.out 6
      have d4 := cell_of_block hH.out 4
      have d5 := cell_of_block hH.out 5
      have d6 := cell_of_block hH.out 6
      simp only [List.getElem?_toArray, List.getElem?_cons_succ, List.getElem?_cons_zero] at c0 c1 c2 c3 c4 c5 c6 d4 d5 d6
      obtain ⟨A6, c9, hS6⟩ : ∃ A6 c9, hS (.slice A l.list.length c) ps = .slice A6 (hSl l ps) c9 := by
        unfold hS hSl
        split
        · exact ⟨_, _, rfl⟩
        · exact ⟨_, _, rfl⟩
      rw [hS6] at d6
      have HF := Lib.hid (show ∀ R, (decide (hN l ps = l.n) && decide (hLb l ps = l.label) && decide (hSl l ps = l.list.length) && (decide (l.list.length = 0) != decide (l.op = 42)) && decide (l.list.length ≤ 400)) = R → fitsP l = R from fun R h => by rw [← h, HPS.out]; rfl)
      clear hS6 hk hH hP
      generalize hN l ps = N at d4 HF
      generalize hLb l ps = M at d5 HF
      generalize hSl l ps = S at d6 HF
      go_upto_region 16 with fail
      go_cut [106] from 70 to 106 (fun s wx => s = .bool (!fitsP l) ∧ wr = wx)
      case first =>
        by_cases h1 : N = l.n
        case neg =>
          have HE := Lib.hid (HF.out false (by simp [h1]))
          have x1 : (N == l.n) = false := beq_eq_false_iff_ne.mpr h1
          have x2 : (N != l.n) = true := bne_iff_ne.mpr h1
          clear h1
          go_wp2_with fail
          go_meet
          exact ⟨by rw [HE.out]; rfl, rfl⟩
        case pos =>
        have x1 : (N == l.n) = true := beq_iff_eq.mpr h1
        have x2 : (N != l.n) = false := by rw [h1]; simp
        by_cases h2 : M = l.label
        case neg =>
          have HE := Lib.hid (HF.out false (by simp [h2]))
          have y1 : (M == l.label) = false := beq_eq_false_iff_ne.mpr h2
          have y2 : (M != l.label) = true := bne_iff_ne.mpr h2
          clear h1 h2
          go_wp2_with fail
          go_meet
          exact ⟨by rw [HE.out]; rfl, rfl⟩
        case pos =>
        have y1 : (M == l.label) = true := beq_iff_eq.mpr h2
        have y2 : (M != l.label) = false := by rw [h2]; simp
        by_cases h3 : S = l.list.length
        case neg =>
          have HE := Lib.hid (HF.out false (by simp [h3]))
          have z1 : (S == l.list.length) = false := beq_eq_false_iff_ne.mpr h3
          have z2 : (S != l.list.length) = true := bne_iff_ne.mpr h3
          have z3 : ((S : Int) == (l.list.length : Int)) = false := beq_eq_false_iff_ne.mpr (by omega)
          have z4 : ((S : Int) != (l.list.length : Int)) = true := bne_iff_ne.mpr (by omega)
          clear h1 h2 h3
          go_wp2_with fail
          go_meet
          exact ⟨by rw [HE.out]; rfl, rfl⟩
        case pos =>
        subst h3
        have HG := Lib.hid (show ∀ R, ((decide (l.list.length = 0) != decide (l.op = 42)) && decide (l.list.length ≤ 400)) = R → fitsP l = R from fun R h => HF.out R (by rw [decide_eq_true h1, decide_eq_true h2, decide_eq_true rfl, ← h]; simp))
        clear HF h1 h2
        by_cases h4 : l.list.length = 0
        case pos =>
          have k1 : ((l.list.length : Int) == 0) = true := by rw [h4]; rfl
          have k5 : decide ((400 : Int) < (l.list.length : Int)) = false := decide_eq_false (by omega)
          by_cases h5 : l.op = 42
          case pos =>
            have HE := Lib.hid (HG.out false (by rw [decide_eq_true h4, decide_eq_true h5]; rfl))
            have k2 : (l.op == 42) = true := beq_iff_eq.mpr h5
            clear h4 h5
            go_wp2_with fail
            go_meet
            exact ⟨by rw [HE.out]; rfl, rfl⟩
          case neg =>
            have HE := Lib.hid (HG.out true (by rw [decide_eq_true h4, decide_eq_false h5, decide_eq_true (show l.list.length ≤ 400 by omega)]; rfl))
            have k2 : (l.op == 42) = false := beq_eq_false_iff_ne.mpr h5
            clear h4 h5
            go_wp2_with fail
            go_meet
            exact ⟨by rw [HE.out]; rfl, rfl⟩
        case neg =>
          have k1 : ((l.list.length : Int) == 0) = false := beq_eq_false_iff_ne.mpr (by omega)
          by_cases h5 : l.op = 42
          case neg =>
            have HE := Lib.hid (HG.out false (by rw [decide_eq_false h4, decide_eq_false h5]; rfl))
            have k2 : (l.op == 42) = false := beq_eq_false_iff_ne.mpr h5
            clear h4 h5
            go_wp2_with fail
            go_meet
            exact ⟨by rw [HE.out]; rfl, rfl⟩
          case pos =>
            have k2 : (l.op == 42) = true := beq_iff_eq.mpr h5
            by_cases h6 : l.list.length ≤ 400
            case pos =>
              have HE := Lib.hid (HG.out true (by rw [decide_eq_false h4, decide_eq_true h5, decide_eq_true h6]; rfl))
              have k5 : decide ((400 : Int) < (l.list.length : Int)) = false := decide_eq_false (by omega)
              clear h4 h5 h6
              go_wp2_with fail
              go_meet
              exact ⟨by rw [HE.out]; rfl, rfl⟩
            case neg =>
              have HE := Lib.hid (HG.out false (by rw [decide_eq_false h4, decide_eq_true h5, decide_eq_false h6]; rfl))
              have k5 : decide ((400 : Int) < (l.list.length : Int)) = true := decide_eq_true (by omega)
              clear h4 h5 h6
              go_wp2_with fail
              go_meet
              exact ⟨by rw [HE.out]; rfl, rfl⟩
      case rest =>
        obtain ⟨rfl, rfl⟩ := hcut
        have HLL := Lib.hid (show fitsP l = true → l.list.length ≤ 400 from fun h => by unfold fitsP at h; simp only [Bool.and_eq_true] at h; exact of_decide_eq_true h.2)
        clear HF
        cases hf : fitsP l with
        | false =>
          go_wp2_with fail
          go_ret
          exact ⟨by rw [hf]; rfl, hB.out⟩
        | true =>
          have hl4 := HLL.out hf
          have HFF := Lib.hid hf
          clear hf
          go_upto_region 18 with fail
          go_cut [7] from 107 to 114 (fun s wx => s = .bool (brJ l.op) ∧ wr = wx)
          case first =>
            by_cases h1 : 30 ≤ l.op
            · by_cases h2 : l.op ≤ 40
              · have HE := Lib.hid (show brJ l.op = true from decide_eq_true ⟨h1, h2⟩)
                have x1 : decide ((30 : Int) ≤ l.op) = true := decide_eq_true h1
                have x2 : decide (l.op ≤ (40 : Int)) = true := decide_eq_true h2
                go_wp2_with fail
                go_meet
                exact ⟨by rw [HE.out], rfl⟩
              · have HE := Lib.hid (show brJ l.op = false from decide_eq_false (by omega))
                have x1 : decide ((30 : Int) ≤ l.op) = true := decide_eq_true h1
                have x2 : decide (l.op ≤ (40 : Int)) = false := decide_eq_false h2
                go_wp2_with fail
                go_meet
                exact ⟨by rw [HE.out], rfl⟩
            · have HE := Lib.hid (show brJ l.op = false from decide_eq_false (by omega))
              have x1 : decide ((30 : Int) ≤ l.op) = false := decide_eq_false h1
              go_wp2_with fail
              go_meet
              exact ⟨by rw [HE.out], rfl⟩
          case rest =>
            obtain ⟨rfl, rfl⟩ := hcut
            have HEnd := Lib.hid (show ∀ R, (decide ((enc l.op l.a l.b l.imm).2 = 0) && (!brJ l.op || decide (l.imm = 0)) && inLab l.label && l.list.all inLab) = R → endP l = R from fun R h => h)
            have HEN := Lib.hid (encode_any l.op l.a l.b l.imm wr (HL.out.below hB.out).forms)
            clear d4 d5 d6 c4 hLn
            generalize enc l.op l.a l.b l.imm = E at HEnd HEN
            obtain ⟨E1, E2⟩ := E
            simp only at HEnd HEN
            go_wp2_with fail
            refine HEN.out.mono ?_
            rintro e w5 ⟨rfl, hb5⟩
            have HB5 := Lib.hid (bj hB.out hb5)
            have HR5 := Lib.hid (Kd.C_below HR.out (bj hB.out hb5))
            replace c3 := kp hb5 c3
            replace c5 := kp hb5 c5
            replace c6 := kp hb5 c6
            clear hb5 c0 c1 c2 HEN
            by_cases he : E2 = 0
            case neg =>
              have HE := Lib.hid (HEnd.out false (by simp [he]))
              have x1 : (E2 == 0) = false := beq_eq_false_iff_ne.mpr he
              clear he
              go_wp2_with fail
              go_ret
              exact ⟨by rw [HFF.out, HE.out]; rfl, HB5.out⟩
            case pos =>
            subst he
            cases hbr : brJ l.op with
            | true =>
              by_cases hi : l.imm = 0
              case neg =>
                have HE := Lib.hid (HEnd.out false (by simp [*]))
                have x1 : (l.imm == 0) = false := beq_eq_false_iff_ne.mpr hi
                clear hi
                go_wp2_with fail
                go_ret
                exact ⟨by rw [HFF.out, HE.out]; rfl, HB5.out⟩
              case pos =>
              have x1 : (l.imm == 0) = true := beq_iff_eq.mpr hi
              cases hlb : inLab l.label with
              | false =>
                have HE := Lib.hid (HEnd.out false (by simp [*]))
                have HO := Lib.hid (out_any l.label)
                have hnb : (!inLab l.label) = true := by rw [hlb]; rfl
                rw [hnb] at HO
                clear hlb hnb
                go_wp2_with (go_at_call 45; refine (HO.out _).mono ?_; rintro e w' ⟨rfl, rfl⟩)
                go_ret
                exact ⟨by rw [HFF.out, HE.out]; rfl, HB5.out⟩
              | true =>
                have HE := Lib.hid (HEnd.out (l.list.all inLab) (by simp [*]))
                have HO := Lib.hid (out_any l.label)
                have hnb : (!inLab l.label) = false := by rw [hlb]; rfl
                rw [hnb] at HO
                clear hlb hnb
                go_wp2_with (first | (go_at_call 45; refine (HO.out _).mono ?_; rintro e w' ⟨rfl, rfl⟩) | (go_at_call 48; refine (containsOut_any A c l.list _ HR5.out (by omega)).mono ?_; rintro e w' ⟨rfl, rfl⟩))
                go_ret
                exact ⟨by rw [HFF.out, HE.out]; simp, HB5.out⟩
            | false =>
              cases hlb : inLab l.label with
              | false =>
                have HE := Lib.hid (HEnd.out false (by simp [*]))
                have HO := Lib.hid (out_any l.label)
                have hnb : (!inLab l.label) = true := by rw [hlb]; rfl
                rw [hnb] at HO
                clear hlb hnb
                go_wp2_with (go_at_call 45; refine (HO.out _).mono ?_; rintro e w' ⟨rfl, rfl⟩)
                go_ret
                exact ⟨by rw [HFF.out, HE.out]; rfl, HB5.out⟩
              | true =>
                have HE := Lib.hid (HEnd.out (l.list.all inLab) (by simp [*]))
                have HO := Lib.hid (out_any l.label)
                have hnb : (!inLab l.label) = false := by rw [hlb]; rfl
                rw [hnb] at HO
                clear hlb hnb
                go_wp2_with (first | (go_at_call 45; refine (HO.out _).mono ?_; rintro e w' ⟨rfl, rfl⟩) | (go_at_call 48; refine (containsOut_any A c l.list _ HR5.out (by omega)).mono ?_; rintro e w' ⟨rfl, rfl⟩))
                go_ret
                exact ⟨by rw [HFF.out, HE.out]; simp, HB5.out⟩

theorem may_any (l : Line) (A : Option Addr) (c : Nat) (w : World) (hL : LLaid w) (hr : kInt.C w A l.list.length l.list) :
    Calls Tryz.prog 21 #[lineV l (.slice A l.list.length c)] w fun e w' => e = .returned (.bool (mayP l)) ∧ Below w.heap.size w w' := by
  unfold mayP
  split
  · exact may_label l A c w ‹_›
  · exact may_other l A c w hL hr ‹_›

end Go.Proofs.YtlhgfhmdhmgmpaaGreatDoor
