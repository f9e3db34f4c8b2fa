/- Texts joined: LpJ PuZd PuZl PuZm PuZn PuZo. -/
import Derived.Test.YtlhgfhmdhmgmpaaGreatDoorRyZ
import Derived.Test.YtlhgfhmdhmgmpaaGreatDoorLpZ
import Derived.Test.YtlhgfhmdhmgmpaaGreatDoorLiH
import Derived.Test.YtlhgfhmdhmgmpaaGreatDoorPZ1A
import Derived.Test.YtlhgfhmdhmgmpaaGreatDoorLiYZ
import Derived.Test.YtlhgfhmdhmgmpaaGreatDoorPZ1B
set_option linter.unusedVariables false
set_option linter.unusedSimpArgs false
namespace Go.Proofs.YtlhgfhmdhmgmpaaGreatDoor
open Go.RowKit

def memChk (op : Int) : Bool :=
  ((partsP op).contains .word == decide (op = 2)) && ((partsP op).contains .place == goOp op) && ((partsP op).contains .places == decide (op = 42))

theorem mem_all : (List.range 48).all (fun k => memChk ((k : Int) + 1)) = true := by kernel_rfl

theorem mem_op (op : Int) (h1 : 1 ≤ op) (h2 : op ≤ 48) : (Part.word ∈ partsP op ↔ op = 2) ∧ (Part.place ∈ partsP op ↔ goOp op = true) ∧ (Part.places ∈ partsP op ↔ op = 42) := by
  have := List.all_eq_true.1 mem_all (op.toNat - 1) (List.mem_range.2 (by omega))
  rw [show ((op.toNat - 1 : Nat) : Int) + 1 = op by omega] at this
  unfold memChk at this
  simp only [Bool.and_eq_true, beq_iff_eq] at this
  obtain ⟨⟨a, b⟩, c⟩ := this
  refine ⟨?_, ?_, ?_⟩
  · rw [← List.contains_iff_mem, a, decide_eq_true_iff]
  · rw [← List.contains_iff_mem, b]
  · rw [← List.contains_iff_mem, c, decide_eq_true_iff]

theorem imm_zero {op a b imm : Int} (ho : op = 41 ∨ op = 43) (h : (enc op a b imm).2 = 0) : imm = 0 := by
  unfold enc at h
  split at h
  · exact absurd h (by decide)
  · split at h
    · rename_i hk
      have hb : (bd (formOf op)).2.2 = (0, 0) := by rcases ho with rfl | rfl <;> kernel_rfl
      unfold okA within at hk
      rw [hb] at hk
      simp only [Bool.and_eq_true, decide_eq_true_eq] at hk
      omega
    · exact absurd h (by decide)

theorem lab_in (n : Int) : isLabel n = inLab n := by
  unfold isLabel within inLab
  rw [Bool.eq_iff_iff]
  simp

theorem labs_in (l : List Int) : l.all isLabel = l.all inLab := by
  induction l with
  | nil => rfl
  | cons x l ih => rw [List.all_cons, List.all_cons, ih, lab_in]

theorem may_fits (l : Line) : mayP l = (decide (0 ≤ l.op) && (decide (l.op ≤ 48) && fitsB l)) := by
  by_cases h0 : l.op = 0
  · unfold mayP fitsB labelP
    rw [if_pos h0, if_pos h0, h0, lab_in, Bool.eq_iff_iff]
    simp
  · rw [Bool.eq_iff_iff]
    by_cases hr : 1 ≤ l.op ∧ l.op ≤ 48
    · obtain ⟨m1, m2, m3⟩ := mem_op l.op hr.1 hr.2
      have hb : brJ l.op = true ↔ 30 ≤ l.op ∧ l.op ≤ 40 := by unfold brJ; simp
      have hg : goOp l.op = true ↔ (30 ≤ l.op ∧ l.op ≤ 41) ∨ l.op = 43 := ⟨goOp_in, fun h => by
        unfold goOp brOp isBr within
        simp only [Bool.or_eq_true, Bool.and_eq_true, decide_eq_true_eq, beq_iff_eq]
        omega⟩
      have hz := fun (ho : l.op = 41 ∨ l.op = 43) h => imm_zero (a := l.a) (b := l.b) (imm := l.imm) ho h
      unfold mayP fitsB fitsP endP hN hLb hSl x4 x6 x8
      rw [if_neg h0, if_neg h0, labs_in, lab_in]
      generalize (enc l.op l.a l.b l.imm).2 = E at hz ⊢
      generalize l.list.all inLab = AL
      generalize inLab l.label = IL
      have d0 : (0 : Int) ≤ l.op := by omega
      simp only [Bool.and_eq_true, decide_eq_true_eq, Bool.or_eq_true, Bool.not_eq_true', bne_iff_ne, ne_eq]
      constructor
      · rintro ⟨⟨⟨⟨⟨a1, a2⟩, a3⟩, a4⟩, a5⟩, ⟨⟨b1, b2⟩, b3⟩, b4⟩
        refine ⟨d0, hr.2, ?_⟩
        have c1 : ¬ (goOp l.op = true ∧ ¬ l.imm = 0) := fun ⟨hh, hne⟩ => by
          rcases hg.1 hh with h | h
          · by_cases h41 : l.op = 41
            · exact hne (hz (.inl h41) b1)
            · rcases b2 with b2 | b2
              · have := hb.2 ⟨h.1, by omega⟩; rw [b2] at this; cases this
              · exact hne b2
          · exact hne (hz (.inr h) b1)
        have c2 : ¬ (¬ l.n = 0 ∧ ¬ l.op = 2) := fun ⟨hn, h2⟩ => by
          rw [if_neg (fun h => h2 (m1.1 h))] at a1; exact hn a1.symm
        have c3 : ¬ (goOp l.op = false ∧ ¬ l.label = 0) := fun ⟨hh, hn⟩ => by
          rw [if_neg (fun h => by rw [m2.1 h] at hh; cases hh)] at a2; exact hn a2.symm
        have c4 : ¬ (decide (0 < l.list.length) = (l.op == 42)) = false := by
          by_cases e : l.op = 42 <;> by_cases e2 : l.list.length = 0 <;> simp [e, e2] at a4 ⊢ <;> omega
        rw [if_neg, if_neg, if_neg, if_neg]
        · simpa using b1
        · rw [b4]; simp
        · rintro (h | h)
          · simp at c4; exact h c4
          · omega
        · rintro (h | h)
          · exact c3 h
          · rw [b3] at h; cases h
        · rintro (h | h)
          · exact c1 h
          · exact c2 h
      · rintro ⟨_, _, h⟩
        split at h
        · cases h
        · rename_i q4
          split at h
          · cases h
          · rename_i q6
            split at h
            · cases h
            · rename_i q8
              split at h
              · cases h
              · rename_i qa
                have b1 : E = 0 := by simpa using h
                have hAL : AL = true := by cases AL <;> simp at qa ⊢
                have hIL : IL = true := by cases IL <;> simp at q6 ⊢
                refine ⟨⟨⟨⟨⟨?_, ?_⟩, ?_⟩, ?_⟩, ?_⟩, ⟨⟨b1, ?_⟩, hIL⟩, hAL⟩
                · by_cases h2 : l.op = 2
                  · rw [if_pos (m1.2 h2)]
                  · rw [if_neg (fun h => h2 (m1.1 h))]
                    by_cases hn : l.n = 0
                    · exact hn.symm
                    · exact absurd (.inr ⟨hn, h2⟩) q4
                · by_cases h2 : goOp l.op = true
                  · rw [if_pos (m2.2 h2)]
                  · rw [if_neg (fun h => h2 (m2.1 h))]
                    by_cases hn : l.label = 0
                    · exact hn.symm
                    · exact absurd (.inl ⟨by simpa using h2, hn⟩) q6
                · by_cases h2 : l.op = 42
                  · rw [if_pos (m3.2 h2)]
                  · rw [if_neg (fun h => h2 (m3.1 h))]
                    have : ¬ 0 < l.list.length := fun hp => q8 (.inl (by simp [hp, h2]))
                    omega
                · intro e
                  refine q8 (.inl ?_)
                  by_cases e1 : l.op = 42 <;> by_cases e2 : l.list.length = 0 <;> simp [e1, e2] at e ⊢
                  · first | omega | (intro h; simp [e1, show 0 < l.list.length by omega] at h)
                · have : ¬ 400 < l.list.length := fun hp => q8 (.inr hp)
                  omega
                · by_cases hi : l.imm = 0
                  · exact .inr hi
                  · refine .inl ?_
                    cases hbr : brJ l.op with
                    | false => rfl
                    | true => exact absurd (.inl ⟨hg.2 (.inl ⟨(hb.1 hbr).1, by have := (hb.1 hbr).2; omega⟩), hi⟩) q4
    · constructor
      · intro h
        exact absurd ⟨(may_op h h0).1, (may_op h h0).2.1⟩ hr
      · intro h
        simp only [Bool.and_eq_true, decide_eq_true_eq] at h
        exact absurd ⟨by omega, h.2.1⟩ hr

end Go.Proofs.YtlhgfhmdhmgmpaaGreatDoor

set_option linter.unusedVariables false
namespace Go.Proofs.YtlhgfhmdhmgmpaaGreatDoor.PZ1
open Go.RowKit Go.Proofs.YtlhgfhmdhmgmpaaGreatDoorW.PrintWords Go.Proofs.YtlhgfhmdhmgmpaaGreatDoorW.PrintLast Go.Proofs.YtlhgfhmdhmgmpaaGreatDoorW.PrintMore

def ints (l : List UInt8) : List Int := l.map fun b => (b.toNat : Int)

theorem str_ints (l : List UInt8) : strOfNums (ints l) = baL l := by
  unfold strOfNums ints baL
  rw [List.map_map]
  congr 2
  conv => rhs; rw [← List.map_id l]
  apply List.map_congr_left
  intro b _
  simp

theorem u64_id {x : Int} (h0 : 0 ≤ x) (h1 : x < 18446744073709551616) : IntKind.u64.wrap x = x := by
  rw [IntKind.wrap_u64]
  omega

def dd (u : Nat) : List UInt8 := if u = 0 then [] else Lib.decDigits u

theorem dd_step (u : Nat) (h : 0 < u) : dd u = dd (u / 10) ++ [UInt8.ofNat (48 + u % 10)] := by
  unfold dd
  rw [if_neg (by omega), Lib.decDigits]
  by_cases h10 : u < 10
  · rw [dif_pos h10, if_pos (by omega), Nat.mod_eq_of_lt h10]
    rfl
  · rw [dif_neg h10, if_neg (by omega)]

theorem digits_l0 (x0 : Int) : ∀ (d u : Nat) (acc : List UInt8), u < 10 ^ d → d ≤ 20 → acc.length + d ≤ 100 →
    Ev (fun k => switchbackref22_Digits.l0 k x0 (ints acc) u) (baL ((if x0 < 0 then [45] else []) ++ (dd u ++ acc))) := by
  intro d
  induction d with
  | zero =>
    intro u acc hu _ hl
    obtain rfl : u = 0 := by simpa using hu
    refine Ev.step (f := fun _ => some (baL ((if x0 < 0 then [45] else []) ++ (dd 0 ++ acc)))) (fun k => ?_) (Ev.now _)
    simp only [switchbackref22_Digits.l0]
    rw [if_neg (by decide), str_ints]
    have hd : dd 0 = [] := rfl
    rw [hd, List.nil_append]
    by_cases h : x0 < 0
    · rw [if_pos h, if_pos h, if_pos (by rw [baL_size]; omega)]
      exact congrArg some (ba_cat [45] acc)
    · rw [if_neg h, if_neg h, List.nil_append]
  | succ d ih =>
    intro u acc hu hd hl
    by_cases h0 : u = 0
    · subst h0
      refine Ev.step (f := fun _ => some (baL ((if x0 < 0 then [45] else []) ++ (dd 0 ++ acc)))) (fun k => ?_) (Ev.now _)
      simp only [switchbackref22_Digits.l0]
      rw [if_neg (by decide), str_ints]
      have hd : dd 0 = [] := rfl
      rw [hd, List.nil_append]
      by_cases h : x0 < 0
      · rw [if_pos h, if_pos h, if_pos (by rw [baL_size]; omega)]
        exact congrArg some (ba_cat [45] acc)
      · rw [if_neg h, if_neg h, List.nil_append]
    · have hpow : (10 : Nat) ^ (d + 1) ≤ 10 ^ 20 := Nat.pow_le_pow_right (by decide) hd
      have hu2 : u < 100000000000000000000 := by omega
      have hu10 : u / 10 < 10 ^ d := by rw [Nat.pow_succ] at hu; omega
      have IH := ih (u / 10) (UInt8.ofNat (48 + u % 10) :: acc) hu10 (by omega) (by rw [List.length_cons]; omega)
      rw [dd_step u (by omega)]
      rw [List.append_assoc, List.singleton_append]
      refine Ev.step (fun k => ?_) IH
      simp only [switchbackref22_Digits.l0]
      rw [if_pos (by omega)]
      simp only [Option.bind_some]
      have e1 : (u : Int).tmod 10 = ((u % 10 : Nat) : Int) := by rw [Int.tmod_eq_emod_of_nonneg (by omega)]; omega
      have e2 : (u : Int).tdiv 10 = ((u / 10 : Nat) : Int) := by rw [Int.tdiv_eq_ediv_of_nonneg (by omega)]; omega
      have e3 : ([IntKind.u64.wrap (48 + (u : Int).tmod 10) % 256] : List Int) ++ ints acc = ints (UInt8.ofNat (48 + u % 10) :: acc) := by
        rw [e1, u64_id (by omega) (by omega)]
        show _ = (((UInt8.ofNat (48 + u % 10)).toNat : Nat) : Int) :: ints acc
        rw [ofNat_dig (by omega), List.singleton_append]
        congr 1
        omega
      have hil : (ints acc).length = acc.length := by unfold ints; rw [List.length_map]
      rw [if_pos (by rw [hil]; simp only [List.length_cons, List.length_nil]; omega), e3, e2, u64_id (by omega) (by omega)]

theorem digits_f (n : Int) (h0 : -9223372036854775808 ≤ n) (h1 : n ≤ 9223372036854775807) : Ev (fun k => switchbackref22_Digits.f k n) (baL (Lib.itoa n)) := by
  unfold switchbackref22_Digits.f
  by_cases hz : n = 0
  · subst hz
    simp only [if_pos]
    have e : Lib.itoa 0 = [48] := by rw [show (0 : Int) = ((0 : Nat) : Int) from rfl, Lib.itoa_nonneg, Lib.decDigits_one (by decide)]; rfl
    rw [e]
    exact Ev.now _
  · simp only [if_neg hz]
    by_cases hn : n < 0
    · simp only [if_pos hn]
      have e : IntKind.u64.wrap (-(IntKind.u64.wrap n)) = ((n.natAbs : Nat) : Int) := by
        rw [IntKind.wrap_u64, IntKind.wrap_u64]
        omega
      have h := digits_l0 n 20 n.natAbs [] (by have : (10 : Nat) ^ 20 = 100000000000000000000 := by decide
                                               omega) (Nat.le_refl _) (by simp)
      rw [if_pos hn, List.append_nil] at h
      have hr : Lib.itoa n = [45] ++ dd n.natAbs := by
        unfold Lib.itoa dd
        rw [if_pos hn, if_neg (by omega)]
        rfl
      rw [hr]
      refine Ev.step (fun k => ?_) h
      simp only [switchbackref22_Digits.j0]
      rw [e]
      rfl
    · simp only [if_neg hn]
      have e : IntKind.u64.wrap n = ((n.toNat : Nat) : Int) := by
        rw [IntKind.wrap_u64]
        omega
      have h := digits_l0 n 20 n.toNat [] (by have : (10 : Nat) ^ 20 = 100000000000000000000 := by decide
                                              omega) (Nat.le_refl _) (by simp)
      rw [if_neg hn, List.append_nil, List.nil_append] at h
      have hr : Lib.itoa n = dd n.toNat := by
        unfold Lib.itoa dd
        rw [if_neg hn, if_neg (by omega)]
      rw [hr]
      refine Ev.step (fun k => ?_) h
      simp only [switchbackref22_Digits.j0]
      rw [e]
      rfl

end Go.Proofs.YtlhgfhmdhmgmpaaGreatDoor.PZ1

set_option linter.unusedVariables false
set_option linter.unusedSimpArgs false
namespace Go.Proofs.YtlhgfhmdhmgmpaaGreatDoor.PZ1
open Go.RowKit Go.Proofs.YtlhgfhmdhmgmpaaGreatDoorW.PrintWords Go.Proofs.YtlhgfhmdhmgmpaaGreatDoorW.PrintLast Go.Proofs.YtlhgfhmdhmgmpaaGreatDoorW.PrintMore

theorem names_chk : (List.range 48).all (fun k => decide ((switchbackref22_Name.f ((k : Int) + 1)).map (fun s => s.data.toList) = some (opNames.getD k []))) = true := by kernel_rfl

theorem name_f (op : Int) (h1 : 1 ≤ op) (h2 : op ≤ 48) : switchbackref22_Name.f op = some (baL (opNames.getD (op.toNat - 1) [])) := by
  have h := of_decide_eq_true (List.all_eq_true.1 names_chk (op.toNat - 1) (List.mem_range.2 (by omega)))
  rw [show ((op.toNat - 1 : Nat) : Int) + 1 = op by omega] at h
  cases hn : switchbackref22_Name.f op with
  | none => rw [hn] at h; cases h
  | some s =>
    rw [hn, Option.map_some, Option.some.injEq] at h
    rw [← h, baL_data]

def hasNum (op : Int) : Bool := if op = 1 then true else if op = 4 then true else if op = 27 then true else if op = 28 then true else op == 48

theorem number_f (op : Int) : switchbackref22_number.f op = some (hasNum op) := by
  unfold switchbackref22_number.f hasNum
  repeat' split
  all_goals rfl

def hasThree (op : Int) : Bool := if op ≥ 5 then decide (op ≤ 23) else false

theorem three_f (op : Int) : switchbackref22_three.f op = some (hasThree op) := by
  unfold switchbackref22_three.f hasThree
  split <;> rfl

theorem branch16_f (n : Int) : switchbackref16_Branch.f n = some (isBr n) := by
  unfold switchbackref16_Branch.f isBr within
  by_cases h : n ≥ 30
  · rw [if_pos h, decide_eq_true (show (30 : Int) ≤ n from h), Bool.true_and]
  · rw [if_neg h, decide_eq_false (show ¬ (30 : Int) ≤ n from h), Bool.false_and]

theorem branch17_f (a b c d e f : Int) (l : List Int) : switchbackref17_Branch.f a b c d e f l = some (brOp a) := by
  unfold switchbackref17_Branch.f brOp
  rw [branch16_f]
  simp only [Option.bind_some]
  cases isBr a <;> simp

theorem goes_f (a b c d e f : Int) (l : List Int) : switchbackref17_Goes.f a b c d e f l = some (goOp a) := by
  unfold switchbackref17_Goes.f goOp
  rw [branch17_f]
  simp only [Option.bind_some]
  cases brOp a
  · by_cases h : a = 41
    · simp [h]
    · simp [h]
  · simp

def regsOf (op : Int) : Int := (switchbackref22_registers.f 4 op).getD 9

def shape (op : Int) : List Part :=
  ((if regsOf op ≥ 1 then [Part.reg 1] else []) ++ (if regsOf op ≥ 2 then [Part.reg 2] else [])) ++ ((if hasThree op = true then [Part.reg 3] else []) ++ ((if hasNum op = true then [Part.num] else []) ++ ((if op = 2 then [Part.word] else []) ++ ((if goOp op = true then [Part.place] else []) ++ (if op = 42 then [Part.places] else [])))))

def shChk (op : Int) : Bool := decide (partsP op = shape op) && decide (switchbackref22_registers.f 4 op = some (regsOf op))

theorem shapes_chk : (List.range 48).all (fun k => shChk ((k : Int) + 1)) = true := by kernel_rfl

theorem shape_of (op : Int) (h1 : 1 ≤ op) (h2 : op ≤ 48) : partsP op = shape op ∧ switchbackref22_registers.f 4 op = some (regsOf op) := by
  have h := List.all_eq_true.1 shapes_chk (op.toNat - 1) (List.mem_range.2 (by omega))
  rw [show ((op.toNat - 1 : Nat) : Int) + 1 = op by omega] at h
  unfold shChk at h
  rw [Bool.and_eq_true] at h
  exact ⟨of_decide_eq_true h.1, of_decide_eq_true h.2⟩

theorem regs_f (op : Int) (h1 : 1 ≤ op) (h2 : op ≤ 48) : Ev (fun k => switchbackref22_registers.f k op) (regsOf op) :=
  Ev.of (fun k => switchbackref22_registers.mono op k) (shape_of op h1 h2).2

theorem add1 {β : Type} (x p : List UInt8) (m : Nat) (n : Int) (D : Option ByteArray) (C : ByteArray → Option β) (hp : p.length = m) (hm : m ≤ 2) (h0 : -9223372036854775808 ≤ n) (h1 : n ≤ 9223372036854775807) (hD : D = some (baL (Lib.itoa n))) (hx : x.length ≤ 10000000) :
    (if (baL x).size + m ≤ 9223372036854775807 then (D.bind fun t => if (baL x ++ baL p).size + t.size ≤ 9223372036854775807 then C ((baL x ++ baL p) ++ t) else none) else none) = C (baL (x ++ (p ++ Lib.itoa n))) := by
  have hl := itoa_len n h0 h1
  have e : baL x ++ baL p = baL (x ++ p) := ba_cat x p
  have e2 : baL (x ++ p) ++ baL (Lib.itoa n) = baL ((x ++ p) ++ Lib.itoa n) := ba_cat _ _
  rw [hD, Option.bind_some, e, e2, baL_size, baL_size, baL_size, if_pos (by omega), if_pos (by rw [List.length_append]; omega), List.append_assoc]

theorem jt_one (x : List UInt8) : Lib.joinTail [32] [x] = 32 :: x := by simp [Lib.joinTail]

theorem lit_32_82 : (⟨#[32, 82]⟩ : ByteArray) = baL [32, 82] := rfl
theorem lit_32_76 : (⟨#[32, 76]⟩ : ByteArray) = baL [32, 76] := rfl
theorem lit_32 : (⟨#[32]⟩ : ByteArray) = baL [32] := rfl

def P1 (op : Int) : List Part := (if regsOf op ≥ 1 then [Part.reg 1] else []) ++ (if regsOf op ≥ 2 then [Part.reg 2] else [])
def P2 (op : Int) : List Part := if hasThree op = true then [Part.reg 3] else []

theorem front_f (l : Line) (h1 : 1 ≤ l.op) (h2 : l.op ≤ 48) (hw : WfL l) :
    Ev (fun k => switchbackref22_front.f k l.op l.a l.b l.imm) (baL ((opNames.getD (l.op.toNat - 1) [] ++ Lib.joinTail [32] ((P1 l.op).map (partT l))) ++ Lib.joinTail [32] ((P2 l.op).map (partT l)))) := by
  obtain ⟨Ka, da⟩ := digits_f l.a hw.a0 hw.a1
  obtain ⟨Kb, db⟩ := digits_f l.b hw.b0 hw.b1
  obtain ⟨Ki, di⟩ := digits_f l.imm hw.i0 hw.i1
  obtain ⟨Kr, dr⟩ := regs_f l.op h1 h2
  replace dr : ∀ k, Kr ≤ k → switchbackref22_registers.f k l.op = some (regsOf l.op) := dr
  have la := itoa_len l.a hw.a0 hw.a1
  have lb := itoa_len l.b hw.b0 hw.b1
  obtain ⟨nm, hnm⟩ : ∃ nm, opNames.getD (l.op.toNat - 1) [] = nm := ⟨_, rfl⟩
  have hnl : nm.length ≤ 4 := by rw [← hnm]; exact nameS_len _
  refine ⟨Ka + Kb + Ki + Kr + 3, fun k hk => ?_⟩
  obtain ⟨j, rfl⟩ : ∃ j, k = j + 2 := ⟨k - 2, by omega⟩
  have J1 : ∀ x : List UInt8, x.length ≤ 1000 → switchbackref22_front.j1 (j + 1) l.op l.imm (baL x) = some (baL (x ++ Lib.joinTail [32] ((P2 l.op).map (partT l)))) := by
    intro x hx
    simp only [switchbackref22_front.j1]
    rw [three_f, Option.bind_some]
    unfold P2
    cases hasThree l.op with
    | false => simp [Lib.joinTail]
    | true =>
      rw [if_pos rfl, if_pos rfl, lit_32_82]
      rw [add1 x [32, 82] 2 l.imm _ (fun s => some s) rfl (by decide) hw.i0 hw.i1 (di j (by omega)) (by omega)]
      simp only [List.map_cons, List.map_nil, jt_one, partT, fieldI]
      rfl
  have J0 : ∀ x : List UInt8, x.length ≤ 500 → switchbackref22_front.j0 (j + 2) l.op l.b l.imm (baL x) (regsOf l.op) = some (baL ((x ++ Lib.joinTail [32] ((if regsOf l.op ≥ 2 then [Part.reg 2] else []).map (partT l))) ++ Lib.joinTail [32] ((P2 l.op).map (partT l)))) := by
    intro x hx
    simp only [switchbackref22_front.j0]
    by_cases hr : regsOf l.op ≥ 2
    · rw [if_pos hr, if_pos hr, lit_32_82, add1 x [32, 82] 2 l.b _ (fun s => switchbackref22_front.j1 (j + 1) l.op l.imm s) rfl (by decide) hw.b0 hw.b1 (db (j + 1) (by omega)) (by omega)]
      rw [J1 _ (by simp only [List.length_append, List.length_cons, List.length_nil]; omega)]
      simp only [List.map_cons, List.map_nil, jt_one, partT, fieldI]
      rfl
    · rw [if_neg hr, if_neg hr, J1 x (by omega)]
      simp [Lib.joinTail]
  show switchbackref22_front.f (j + 2) l.op l.a l.b l.imm = _
  unfold switchbackref22_front.f
  rw [name_f l.op h1 h2, hnm, Option.bind_some, dr (j + 2) (by omega), Option.bind_some]
  unfold P1
  by_cases hr : regsOf l.op ≥ 1
  · rw [if_pos hr, if_pos hr, lit_32_82, add1 nm [32, 82] 2 l.a _ (fun s => switchbackref22_front.j0 (j + 2) l.op l.b l.imm s (regsOf l.op)) rfl (by decide) hw.a0 hw.a1 (da (j + 2) (by omega)) (by omega)]
    rw [J0 _ (by simp only [List.length_append, List.length_cons, List.length_nil]; omega), List.map_append, joinTail_app]
    simp only [List.map_cons, List.map_nil, jt_one, partT, fieldI]
    congr 2
    simp
  · rw [if_neg hr, if_neg hr, J0 nm (by omega)]
    simp [Lib.joinTail]

end Go.Proofs.YtlhgfhmdhmgmpaaGreatDoor.PZ1

set_option linter.unusedVariables false
set_option linter.unusedSimpArgs false
namespace Go.Proofs.YtlhgfhmdhmgmpaaGreatDoor.PZ1
open Go.RowKit Go.Proofs.YtlhgfhmdhmgmpaaGreatDoorW.PrintWords Go.Proofs.YtlhgfhmdhmgmpaaGreatDoorW.PrintLast Go.Proofs.YtlhgfhmdhmgmpaaGreatDoorW.PrintMore

theorem wrap_i64 {x : Int} (h0 : -9223372036854775808 ≤ x) (h1 : x ≤ 9223372036854775807) : wrap64 x = x := by
  unfold wrap64
  omega

def labsT (l : List Int) : List UInt8 := Lib.joinTail [32] (l.map fun n => 76 :: Lib.itoa n)

theorem labs_l0 (a b c d e f : Int) (ns : List Int) (hns : ∀ x ∈ ns, -9223372036854775808 ≤ x ∧ x ≤ 9223372036854775807) (hlen : ns.length ≤ 400) : ∀ (m i : Nat) (x : List UInt8), ns.length - i = m → i ≤ ns.length → x.length ≤ 10000 + 30 * i →
    Ev (fun k => switchbackref22_Line.l0 k (baL x) i a b c d e f ns) (baL (x ++ labsT (ns.drop i))) := by
  intro m
  induction m with
  | zero =>
    intro i x hm hi hx
    have hie : i = ns.length := by omega
    subst hie
    rw [List.drop_length]
    refine Ev.step (f := fun _ => some (baL (x ++ labsT []))) (fun k => ?_) (Ev.now _)
    simp only [switchbackref22_Line.l0]
    rw [if_neg (by omega)]
    simp [labsT, Lib.joinTail]
  | succ m ih =>
    intro i x hm hi hx
    have hlt : i < ns.length := by omega
    have hmem := hns (ns[i]) (List.getElem_mem hlt)
    obtain ⟨K, hK⟩ := digits_f (ns[i]) hmem.1 hmem.2
    have hl := itoa_len (ns[i]) hmem.1 hmem.2
    have hd : ns.drop i = ns[i] :: ns.drop (i + 1) := List.drop_eq_getElem_cons hlt
    have hrd : rd ns (i : Int) = ns[i] := by unfold rd; simp [hlt]
    have IH := ih (i + 1) (x ++ ([32, 76] ++ Lib.itoa ns[i])) (by omega) (by omega) (by simp only [List.length_append, List.length_cons, List.length_nil]; omega)
    obtain ⟨K2, hK2⟩ := IH
    refine ⟨K + K2 + 1, fun k hk => ?_⟩
    obtain ⟨j, rfl⟩ : ∃ j, k = j + 1 := ⟨k - 1, by omega⟩
    show switchbackref22_Line.l0 (j + 1) (baL x) i a b c d e f ns = _
    simp only [switchbackref22_Line.l0]
    rw [if_pos (by omega), if_pos (show (0 : Int) ≤ (i : Int) by omega), hrd, lit_32_76]
    rw [add1 x [32, 76] 2 (ns[i]) _ (fun s => switchbackref22_Line.l0 j s (wrap64 ((i : Int) + 1)) a b c d e f ns) rfl (by decide) hmem.1 hmem.2 (hK j (by omega)) (by omega)]
    rw [wrap_i64 (by omega) (by omega), show ((i : Int) + 1) = ((i + 1 : Nat) : Int) by omega]
    have := hK2 j (by omega)
    simp only at this
    rw [this, hd]
    generalize ns.drop (i + 1) = R
    simp [labsT, Lib.joinTail]

theorem jt_nil : Lib.joinTail [32] ([] : List (List UInt8)) = [] := rfl

theorem line_f (l : Line) (hw : WfL l) (hm : mayP l = true) : Ev (fun k => switchbackref22_Line.f k l.op l.a l.b l.imm l.n l.label l.list) (baL (textP l)) := by
  obtain ⟨Kl, dl⟩ := digits_f l.label hw.l0 hw.l1
  replace dl : ∀ k, Kl ≤ k → switchbackref22_Digits.f k l.label = some (baL (Lib.itoa l.label)) := dl
  have ll := itoa_len l.label hw.l0 hw.l1
  by_cases h0 : l.op = 0
  · refine ⟨Kl, fun k hk => ?_⟩
    show switchbackref22_Line.f k l.op l.a l.b l.imm l.n l.label l.list = _
    unfold switchbackref22_Line.f textP
    rw [if_pos h0, if_pos h0, dl k hk, Option.bind_some, show (⟨#[76]⟩ : ByteArray) = baL [76] from rfl, show (⟨#[58]⟩ : ByteArray) = baL [58] from rfl]
    have e : baL [76] ++ baL (Lib.itoa l.label) = baL ([76] ++ Lib.itoa l.label) := ba_cat _ _
    have e2 : baL ([76] ++ Lib.itoa l.label) ++ baL [58] = baL (([76] ++ Lib.itoa l.label) ++ [58]) := ba_cat _ _
    rw [e, e2, baL_size, baL_size, if_pos (by omega), if_pos (by simp only [List.length_append, List.length_cons, List.length_nil]; omega)]
    rfl
  · obtain ⟨h1, h2, hf⟩ := may_op hm h0
    have hE := may_ends hm h0
    have hsh := may_short hm
    obtain ⟨Kf, df⟩ := front_f l h1 h2 hw
    replace df : ∀ k, Kf ≤ k → switchbackref22_front.f k l.op l.a l.b l.imm = _ := df
    obtain ⟨Ki, di⟩ := digits_f l.imm hw.i0 hw.i1
    obtain ⟨Kn, dn⟩ := digits_f l.n (by have := hw.n0; omega) (by have := hw.n1; omega)
    have li := itoa_len l.imm hw.i0 hw.i1
    have ln := itoa_len l.n (by have := hw.n0; omega) (by have := hw.n1; omega)
    obtain ⟨nm, hnm⟩ : ∃ nm, opNames.getD (l.op.toNat - 1) [] = nm := ⟨_, rfl⟩
    have hnl : nm.length ≤ 4 := by rw [← hnm]; exact nameS_len _
    have hpl : (P1 l.op).length ≤ 2 ∧ (P2 l.op).length ≤ 1 := by
      unfold P1 P2
      constructor
      · split <;> split <;> simp
      · split <;> simp
    have hpt : ∀ ps : List Part, (∀ p ∈ ps, ∃ o, p = .reg o) → (Lib.joinTail [32] (ps.map (partT l))).length ≤ 30 * ps.length := by
      intro ps hp
      have := joinTail_len 29 (ps.map (partT l)) (fun y hy => by
        obtain ⟨p, hpm, rfl⟩ := List.mem_map.1 hy
        obtain ⟨o, rfl⟩ := hp p hpm
        have hr := fieldI_rng hw o
        have := itoa_len (fieldI l o) hr.1 hr.2
        show (82 :: Lib.itoa (fieldI l o)).length ≤ 29
        rw [List.length_cons]
        omega)
      rwa [List.length_map] at this
    have hp1 := hpt (P1 l.op) (fun p hp => by
      unfold P1 at hp
      rcases List.mem_append.1 hp with h | h <;> (split at h <;> simp at h <;> exact ⟨_, h⟩))
    have hp2 := hpt (P2 l.op) (fun p hp => by
      unfold P2 at hp
      split at hp <;> simp at hp <;> exact ⟨_, hp⟩)
    obtain ⟨X, hX⟩ : ∃ X, (nm ++ Lib.joinTail [32] ((P1 l.op).map (partT l))) ++ Lib.joinTail [32] ((P2 l.op).map (partT l)) = X := ⟨_, rfl⟩
    have hXl : X.length ≤ 100 := by
      rw [← hX, List.length_append, List.length_append]
      have a1 : 30 * (P1 l.op).length ≤ 30 * 2 := Nat.mul_le_mul_left _ hpl.1
      have a2 : 30 * (P2 l.op).length ≤ 30 * 1 := Nat.mul_le_mul_left _ hpl.2
      omega
    rw [hnm, hX] at df
    obtain ⟨A, hA⟩ : ∃ A : List UInt8, Lib.joinTail [32] ((if hasNum l.op = true then [Part.num] else []).map (partT l)) = A := ⟨_, rfl⟩
    obtain ⟨B, hB⟩ : ∃ B : List UInt8, Lib.joinTail [32] ((if l.op = 2 then [Part.word] else []).map (partT l)) = B := ⟨_, rfl⟩
    obtain ⟨C, hC⟩ : ∃ C : List UInt8, Lib.joinTail [32] ((if goOp l.op = true then [Part.place] else []).map (partT l)) = C := ⟨_, rfl⟩
    have hAl : A.length ≤ 30 := by
      rw [← hA]
      split
      · simp only [List.map_cons, List.map_nil, jt_one, partT, List.length_cons]; omega
      · simp [Lib.joinTail]
    have hBl : B.length ≤ 30 := by
      rw [← hB]
      split
      · simp only [List.map_cons, List.map_nil, jt_one, partT, List.length_cons]; omega
      · simp [Lib.joinTail]
    have hCl : C.length ≤ 30 := by
      rw [← hC]
      split
      · simp only [List.map_cons, List.map_nil, jt_one, partT, List.length_cons]; omega
      · simp [Lib.joinTail]
    have hT : textP l = ((X ++ A) ++ B) ++ C ++ labsT l.list := by
      unfold textP
      rw [if_neg h0, Lib.join_cons, (shape_of l.op h1 h2).1, hnm]
      unfold shape
      simp only [List.map_append, joinTail_app]
      have hD : Lib.joinTail [32] ((if l.op = 42 then [Part.places] else []).map (partT l)) = labsT l.list := by
        by_cases h42 : l.op = 42
        · rw [if_pos h42]
          show Lib.joinTail [32] [Lib.join _ [32]] = _
          have hne : l.list ≠ [] := fun e => hE.pl.1 (by rw [e]; rfl) h42
          rw [joinTail_join _ (by simpa using hne)]
          rfl
        · rw [if_neg h42]
          have : l.list = [] := List.length_eq_zero_iff.1 (hE.pl.2 h42)
          rw [this]
          rfl
      rw [hA, hB, hC, hD, ← hX]
      unfold P1 P2
      simp only [List.map_append, joinTail_app, List.append_assoc]
    rw [hT]
    obtain ⟨K0, d0⟩ := labs_l0 l.op l.a l.b l.imm l.n l.label l.list hw.ls hsh (l.list.length - 0) 0 (((X ++ A) ++ B) ++ C) rfl (Nat.zero_le _) (by simp only [List.length_append]; omega)
    replace d0 : ∀ k, K0 ≤ k → switchbackref22_Line.l0 k (baL (((X ++ A) ++ B) ++ C)) 0 l.op l.a l.b l.imm l.n l.label l.list = some (baL ((((X ++ A) ++ B) ++ C) ++ labsT (l.list.drop 0))) := d0
    rw [List.drop_zero] at d0
    refine ⟨Kl + Kf + Ki + Kn + K0 + 5, fun k hk => ?_⟩
    obtain ⟨j, rfl⟩ : ∃ j, k = j + 3 := ⟨k - 3, by omega⟩
    show switchbackref22_Line.f (j + 3) l.op l.a l.b l.imm l.n l.label l.list = _
    have J2 : switchbackref22_Line.j2 (j + 1) (baL (((X ++ A) ++ B) ++ C)) l.op l.a l.b l.imm l.n l.label l.list = some (baL ((((X ++ A) ++ B) ++ C) ++ labsT l.list)) := by
      simp only [switchbackref22_Line.j2]
      exact d0 j (by omega)
    have J1 : switchbackref22_Line.j1 (j + 2) (baL ((X ++ A) ++ B)) l.op l.a l.b l.imm l.n l.label l.list = some (baL ((((X ++ A) ++ B) ++ C) ++ labsT l.list)) := by
      simp only [switchbackref22_Line.j1]
      rw [goes_f, Option.bind_some]
      by_cases hg : goOp l.op = true
      · rw [if_pos hg, lit_32_76, add1 ((X ++ A) ++ B) [32, 76] 2 l.label _ (fun s => switchbackref22_Line.j2 (j + 1) s l.op l.a l.b l.imm l.n l.label l.list) rfl (by decide) hw.l0 hw.l1 (dl (j + 1) (by omega)) (by simp only [List.length_append]; omega)]
        rw [if_pos hg] at hC
        rw [show [32, 76] ++ Lib.itoa l.label = C by rw [← hC]; simp only [List.map_cons, List.map_nil, jt_one, partT]; rfl]
        exact J2
      · rw [if_neg hg]
        rw [if_neg hg] at hC
        have : C = [] := hC.symm
        rw [this, List.append_nil] at J2 ⊢
        exact J2
    have J0 : switchbackref22_Line.j0 (j + 3) (baL (X ++ A)) l.op l.a l.b l.imm l.n l.label l.list = some (baL ((((X ++ A) ++ B) ++ C) ++ labsT l.list)) := by
      simp only [switchbackref22_Line.j0]
      by_cases hg : l.op = 2
      · rw [if_pos hg, lit_32, wrap_i64 (by have := hw.n0; omega) (by have := hw.n1; omega), add1 (X ++ A) [32] 1 l.n _ (fun s => switchbackref22_Line.j1 (j + 2) s l.op l.a l.b l.imm l.n l.label l.list) rfl (by decide) (by have := hw.n0; omega) (by have := hw.n1; omega) (dn (j + 2) (by omega)) (by simp only [List.length_append]; omega)]
        rw [if_pos hg] at hB
        rw [show [32] ++ Lib.itoa l.n = B by rw [← hB]; simp only [List.map_cons, List.map_nil, jt_one, partT]; rfl]
        exact J1
      · rw [if_neg hg]
        rw [if_neg hg] at hB
        have : B = [] := hB.symm
        rw [this, List.append_nil] at J1 ⊢
        exact J1
    unfold switchbackref22_Line.f
    rw [if_neg h0, df (j + 3) (by omega), Option.bind_some, number_f, Option.bind_some]
    by_cases hg : hasNum l.op = true
    · rw [if_pos hg, lit_32, add1 X [32] 1 l.imm _ (fun s => switchbackref22_Line.j0 (j + 3) s l.op l.a l.b l.imm l.n l.label l.list) rfl (by decide) hw.i0 hw.i1 (di (j + 3) (by omega)) (by omega)]
      rw [if_pos hg] at hA
      rw [show [32] ++ Lib.itoa l.imm = A by rw [← hA]; simp only [List.map_cons, List.map_nil, jt_one, partT]; rfl]
      exact J0
    · rw [if_neg hg]
      rw [if_neg hg] at hA
      have : A = [] := hA.symm
      rw [this, List.append_nil] at J0
      rw [this, List.append_nil]
      exact J0

end Go.Proofs.YtlhgfhmdhmgmpaaGreatDoor.PZ1

set_option linter.unusedVariables false
set_option linter.unusedSimpArgs false
namespace Go.Proofs.YtlhgfhmdhmgmpaaGreatDoor.PZ1
open Go.RowKit Go.Proofs.YtlhgfhmdhmgmpaaGreatDoorW.PrintWords Go.Proofs.YtlhgfhmdhmgmpaaGreatDoorW.PrintLast Go.Proofs.YtlhgfhmdhmgmpaaGreatDoorW.PrintMore

theorem rdT (l : List S49) (i : Nat) : rd_T49 l (i : Int) = l.getD i z49 := by unfold rd_T49; simp

theorem may22_f (x : S49) : switchbackref22_May.f x.f0 x.f1 x.f2 x.f3 x.f4 x.f5 x.f6 = some (mayP (toLine x)) := by
  unfold switchbackref22_May.f switchbackref17_May.f
  rw [may_fits, mayL_fits]
  show (if x.f0 ≥ 0 then _ else _) = some (decide (0 ≤ x.f0) && (decide (x.f0 ≤ 48) && fitsB (toLine x)))
  by_cases h1 : x.f0 ≥ 0
  · rw [if_pos h1, decide_eq_true (show 0 ≤ x.f0 from h1), Bool.true_and]
    by_cases h2 : x.f0 ≤ 48
    · rw [if_pos h2, decide_eq_true h2, Bool.true_and]
      rfl
    · rw [if_neg h2, decide_eq_false h2, Bool.false_and]
  · rw [if_neg h1, decide_eq_false (show ¬ 0 ≤ x.f0 from h1), Bool.false_and]

theorem ints_app (a b : List UInt8) : ints (a ++ b) = ints a ++ ints b := by unfold ints; rw [List.map_append]

theorem print_l1 (l : List S49) (hw : ∀ x ∈ l, WfL (toLine x) ∧ mayP (toLine x) = true) (hn : l.length ≤ 60000) : ∀ (m i : Nat) (acc : List UInt8), l.length - i = m → i ≤ l.length → acc.length ≤ 40005 * i →
    Ev (fun k => switchbackref22_Print.l1 k l (ints acc) i) (baL (acc ++ bodyP ((l.drop i).map toLine)), 0) := by
  intro m
  induction m with
  | zero =>
    intro i acc hm hi ha
    have hie : i = l.length := by omega
    subst hie
    rw [List.drop_length]
    refine Ev.step (f := fun _ => some (baL (acc ++ bodyP (([] : List S49).map toLine)), 0)) (fun k => ?_) (Ev.now _)
    simp only [switchbackref22_Print.l1]
    rw [if_neg (by omega), str_ints]
    simp [bodyP]
  | succ m ih =>
    intro i acc hm hi ha
    have hlt : i < l.length := by omega
    have hd : l.drop i = l[i] :: l.drop (i + 1) := List.drop_eq_getElem_cons hlt
    have hg : l.getD i z49 = l[i] := by rw [List.getD_eq_getElem?_getD, List.getElem?_eq_getElem hlt]; rfl
    have hx := hw l[i] (List.getElem_mem hlt)
    have hl := textP_len hx.1 hx.2
    obtain ⟨K, hK⟩ := line_f (toLine l[i]) hx.1 hx.2
    replace hK : ∀ k, K ≤ k → switchbackref22_Line.f k l[i].f0 l[i].f1 l[i].f2 l[i].f3 l[i].f4 l[i].f5 l[i].f6 = some (baL (textP (toLine l[i]))) := hK
    obtain ⟨K2, hK2⟩ := ih (i + 1) (acc ++ (textP (toLine l[i]) ++ [10])) (by omega) (by omega) (by simp only [List.length_append, List.length_cons, List.length_nil]; omega)
    replace hK2 : ∀ k, K2 ≤ k → switchbackref22_Print.l1 k l (ints (acc ++ (textP (toLine l[i]) ++ [10]))) ((i + 1 : Nat) : Int) = _ := hK2
    refine ⟨K + K2 + 1, fun k hk => ?_⟩
    obtain ⟨j, rfl⟩ : ∃ j, k = j + 1 := ⟨k - 1, by omega⟩
    show switchbackref22_Print.l1 (j + 1) l (ints acc) i = _
    simp only [switchbackref22_Print.l1]
    have hia : (ints acc).length = acc.length := by unfold ints; rw [List.length_map]
    have hb : bytesOf (baL (textP (toLine l[i]))) = ints (textP (toLine l[i])) := by unfold bytesOf ints; rw [baL_list]
    have ha2 : 40005 * i ≤ 40005 * 60000 := Nat.mul_le_mul_left _ (by omega)
    rw [if_pos (by omega), if_pos (show (0 : Int) ≤ (i : Int) by omega), rdT, hg, hK j (by omega), Option.bind_some, hia, baL_size, if_pos (by omega), Option.bind_some, hb]
    rw [show (ints acc ++ ints (textP (toLine l[i]))).length = acc.length + (textP (toLine l[i])).length by rw [List.length_append, hia]; unfold ints; rw [List.length_map]]
    rw [if_pos (by omega), wrap_i64 (by omega) (by omega), show ((i : Int) + 1) = ((i + 1 : Nat) : Int) by omega]
    rw [show ints acc ++ ints (textP (toLine l[i])) ++ [10] = ints (acc ++ (textP (toLine l[i]) ++ [10])) by rw [ints_app, ints_app, List.append_assoc]; rfl]
    rw [hK2 j (by omega), hd]
    unfold bodyP
    simp only [List.map_cons, List.flatten_cons, List.append_assoc]

theorem print_l0 (l : List S49) (hw : ∀ x ∈ l, WfL (toLine x)) (hn : l.length ≤ 60000) : ∀ (m i : Nat), l.length - i = m → i ≤ l.length → (∀ x ∈ l.take i, mayP (toLine x) = true) →
    Ev (fun k => switchbackref22_Print.l0 k l i) (if (l.map toLine).all mayP = true then (baL (bodyP (l.map toLine)), 0) else ((⟨#[]⟩ : ByteArray), 1)) := by
  intro m
  induction m with
  | zero =>
    intro i hm hi ht
    have hie : i = l.length := by omega
    subst hie
    rw [List.take_length] at ht
    have hall : (l.map toLine).all mayP = true := by
      rw [List.all_eq_true]
      intro y hy
      obtain ⟨x, hx, rfl⟩ := List.mem_map.1 hy
      exact ht x hx
    rw [if_pos hall]
    have h := print_l1 l (fun x hx => ⟨hw x hx, ht x hx⟩) hn (l.length - 0) 0 [] rfl (Nat.zero_le _) (by simp)
    rw [List.drop_zero, List.nil_append] at h
    refine Ev.step (fun k => ?_) h
    simp only [switchbackref22_Print.l0]
    rw [if_neg (by omega)]
    rfl
  | succ m ih =>
    intro i hm hi ht
    have hlt : i < l.length := by omega
    have hg : l.getD i z49 = l[i] := by rw [List.getD_eq_getElem?_getD, List.getElem?_eq_getElem hlt]; rfl
    cases hmay : mayP (toLine l[i]) with
    | true =>
      have IH := ih (i + 1) (by omega) (by omega) (fun x hx => by
        rw [List.take_succ_eq_append_getElem hlt] at hx
        rcases List.mem_append.1 hx with h | h
        · exact ht x h
        · rw [List.mem_singleton.1 h]; exact hmay)
      refine Ev.step (fun k => ?_) IH
      simp only [switchbackref22_Print.l0]
      rw [if_pos (by omega), if_pos (show (0 : Int) ≤ (i : Int) by omega), rdT, hg, may22_f, Option.bind_some, hmay, if_pos rfl, wrap_i64 (by omega) (by omega), show ((i : Int) + 1) = ((i + 1 : Nat) : Int) by omega]
    | false =>
      have hall : (l.map toLine).all mayP ≠ true := fun h => by
        have := List.all_eq_true.1 h (toLine l[i]) (List.mem_map_of_mem (List.getElem_mem hlt))
        rw [hmay] at this; cases this
      rw [if_neg hall]
      refine Ev.step (f := fun _ => some ((⟨#[]⟩ : ByteArray), 1)) (fun k => ?_) (Ev.now _)
      simp only [switchbackref22_Print.l0]
      rw [if_pos (by omega), if_pos (show (0 : Int) ≤ (i : Int) by omega), rdT, hg, may22_f, Option.bind_some, hmay, if_neg (by simp)]

theorem print22_f (l : List S49) (hw : ∀ x ∈ l, WfL (toLine x)) : Ev (fun k => switchbackref22_Print.f k l) (baL (printP (l.map toLine)).1, (printP (l.map toLine)).2) := by
  unfold switchbackref22_Print.f printP
  rw [List.length_map]
  by_cases hn : 60000 < l.length
  · rw [if_pos hn]
    simp only [if_pos (show (l.length : Int) > 60000 by omega)]
    exact Ev.now _
  · rw [if_neg hn]
    simp only [if_neg (show ¬ (l.length : Int) > 60000 by omega)]
    have h := print_l0 l hw (by omega) (l.length - 0) 0 rfl (Nat.zero_le _) (by simp)
    by_cases hall : (l.map toLine).all mayP = true
    · rw [if_pos hall] at h ⊢
      exact h
    · rw [if_neg hall] at h ⊢
      exact h

end Go.Proofs.YtlhgfhmdhmgmpaaGreatDoor.PZ1

set_option linter.unusedVariables false
set_option linter.unusedSimpArgs false
namespace Go.Proofs.YtlhgfhmdhmgmpaaGreatDoor.PZ1
open Go.RowKit Go.Proofs.YtlhgfhmdhmgmpaaGreatDoorW.PrintWords Go.Proofs.YtlhgfhmdhmgmpaaGreatDoorW.PrintLast Go.Proofs.YtlhgfhmdhmgmpaaGreatDoorW.PrintMore

theorem getD_get (l : List S49) {i : Nat} (h : i < l.length) : l.getD i z49 = l[i] := by rw [List.getD_eq_getElem?_getD, List.getElem?_eq_getElem h]; rfl

theorem copy_l0 (l : List S49) (hn : l.length < 1954687338268) (hf : ∀ x ∈ l, x.f6.length < 17592186044416) (d : Nat) : ∀ i : Nat, l.length - i = d → i ≤ l.length → Ev (fun k => switchbacklaw17_Copy.l0 k l l (i : Int)) l := by
  induction d with
  | zero =>
    intro i hd hi
    exact Ev.step (f := fun _ => some l) (fun k => by simp only [switchbacklaw17_Copy.l0]; rw [if_neg (by omega)]) (Ev.now _)
  | succ d ih =>
    intro i hd hi
    have hlt : i < l.length := by omega
    have hx := hf l[i] (List.getElem_mem hlt)
    have e : l.set i (⟨(l.getD i z49).f0, (l.getD i z49).f1, (l.getD i z49).f2, (l.getD i z49).f3, (l.getD i z49).f4, (l.getD i z49).f5, (([] : List Int) ++ (l.getD i z49).f6)⟩ : S49) = l := by
      show l.set i (l.getD i z49) = l
      rw [getD_get _ hlt]
      exact List.set_getElem_self hlt
    refine Ev.step (f := fun k => switchbacklaw17_Copy.l0 k l l ((i + 1 : Nat) : Int)) (fun k => ?_) (ih (i + 1) (by omega) (by omega))
    simp only [switchbacklaw17_Copy.l0]
    rw [if_pos (by omega), if_pos (by omega), if_pos (by omega), rdT, if_pos (by rw [getD_get _ hlt]; simp; omega), wrap_i64 (x := (i : Int) + 1) (by omega) (by omega), Int.toNat_natCast, e]
    rfl

theorem copy_f (l : List S49) (hn : l.length < 1954687338268) (hf : ∀ x ∈ l, x.f6.length < 17592186044416) : Ev (fun k => switchbacklaw17_Copy.f k l) l := by
  unfold switchbacklaw17_Copy.f
  have h1 : ([] : List S49).length + l.length < 1954687338268 := by simp; omega
  simp only [if_pos h1, List.nil_append]
  exact copy_l0 l hn hf l.length 0 (by omega) (by omega)

theorem prints_f (l : List S49) (hw : ∀ x ∈ l, WfL (toLine x)) (hn : l.length < 1954687338268) (hf : ∀ x ∈ l, x.f6.length < 17592186044416) : Ev (fun k => switchbacklaw22_ListPrints.f k l) true := by
  obtain ⟨K1, h1⟩ := copy_f l hn hf
  obtain ⟨K2, h2⟩ := print22_f l hw
  refine ⟨K1 + K2, fun k hk => ?_⟩
  show switchbacklaw22_ListPrints.f k l = some true
  replace h1 : ∀ k, K1 ≤ k → switchbacklaw17_Copy.f k l = some l := h1
  replace h2 : ∀ k, K2 ≤ k → switchbackref22_Print.f k l = some (baL (printP (l.map toLine)).1, (printP (l.map toLine)).2) := h2
  have h3 : list_Print.f l = some (baL (printP (l.map toLine)).1, (printP (l.map toLine)).2) := by
    unfold list_Print.f
    rw [if_pos (List.all_eq_true.2 fun x hx => (wfB_iff _).2 (hw x hx))]
    rfl
  have h4 : switchbacklaw17_SameLines.f l l = some true := by
    unfold switchbacklaw17_SameLines.f
    rw [if_pos (by omega), if_pos (eqL_self fun x hx => by have := hf x hx; omega)]
  unfold switchbacklaw22_ListPrints.f
  rw [h1 k (by omega), Option.bind_some, h3, Option.bind_some, h2 k (by omega), Option.bind_some]
  unfold switchbacklaw22_live.f
  rw [Option.bind_some, if_pos rfl, if_pos rfl, if_pos rfl, h4]
  rfl

theorem prints_row (ls : List Line) (A : Option Addr) (c : Nat) (w : World) (hL : LLaid w) (hl : Lines w (.slice A ls.length c) ls) (hwf : ∀ l ∈ ls, WfL l) (hc : ls.length ≤ c ∧ ls.length * 72 ≤ 140737488351232 ∧ ∀ l ∈ ls, l.list.length * 8 ≤ 140737488351232) :
    Calls Tryz.prog 3 #[.slice A ls.length c] w fun e w' => e = .returned (.bool true) ∧ Below w.heap.size w w' := by
  obtain ⟨k, h⟩ := (prints_f (ls.map ofLine) (fun x hx => by
    obtain ⟨l, hl', rfl⟩ := List.mem_map.1 hx
    exact hwf l hl') (by rw [List.length_map]; omega) (fun x hx => by
    obtain ⟨l, hl', rfl⟩ := List.mem_map.1 hx
    have := hc.2.2 l hl'
    show l.list.length < _
    omega)).rounds
  have := switchbacklaw22_ListPrints.calls k A c (ls.map ofLine) true w (of_lines hl) (by simpa using hc.1) ⟨hL⟩ h
  rwa [List.length_map] at this

end Go.Proofs.YtlhgfhmdhmgmpaaGreatDoor.PZ1
