/- Texts joined: PuZd PuZs PuSw. -/
import Derived.Test.YtlhgfhmdhmgmpaaGreatDoorPZ3A
import Derived.Test.YtlhgfhmdhmgmpaaGreatDoorLpZ
import Derived.Test.YtlhgfhmdhmgmpaaGreatDoorRyZ
import Derived.Test.YtlhgfhmdhmgmpaaGreatDoorLsZ
import Derived.Test.YtlhgfhmdhmgmpaaGreatDoorEncZ
import Derived.Test.YtlhgfhmdhmgmpaaGreatDoorPZ3C
set_option linter.unusedVariables false
namespace Go.Proofs.YtlhgfhmdhmgmpaaGreatDoor.PZ3
open Go.RowKit Go.Proofs.YtlhgfhmdhmgmpaaGreatDoorW.PrintWords Go.Proofs.YtlhgfhmdhmgmpaaGreatDoorW.PrintLast Go.Proofs.YtlhgfhmdhmgmpaaGreatDoorW.PrintMore

def ints (l : List UInt8) : List Int := l.map fun b => (b.toNat : Int)

theorem str_ints (l : List UInt8) : strOfNums (ints l) = baL l := by
  unfold strOfNums ints baL
  rw [List.map_map]
  congr 2
  conv => rhs; rw [← List.map_id l]
  apply List.map_congr_left
  intro b _
  simp

theorem u64_id {x : Int} (h0 : 0 ≤ x) (h1 : x < 18446744073709551616) : IntKind.u64.wrap x = x := by
  rw [IntKind.wrap_u64]
  omega

def dd (u : Nat) : List UInt8 := if u = 0 then [] else Lib.decDigits u

theorem dd_step (u : Nat) (h : 0 < u) : dd u = dd (u / 10) ++ [UInt8.ofNat (48 + u % 10)] := by
  unfold dd
  rw [if_neg (by omega), Lib.decDigits]
  by_cases h10 : u < 10
  · rw [dif_pos h10, if_pos (by omega), Nat.mod_eq_of_lt h10]
    rfl
  · rw [dif_neg h10, if_neg (by omega)]

theorem digits_l0 (x0 : Int) : ∀ (d u : Nat) (acc : List UInt8), u < 10 ^ d → d ≤ 20 → acc.length + d ≤ 100 →
    Ev (fun k => switchbackref22_Digits.l0 k x0 (ints acc) u) (baL ((if x0 < 0 then [45] else []) ++ (dd u ++ acc))) := by
  intro d
  induction d with
  | zero =>
    intro u acc hu _ hl
    obtain rfl : u = 0 := by simpa using hu
    refine Ev.step (f := fun _ => some (baL ((if x0 < 0 then [45] else []) ++ (dd 0 ++ acc)))) (fun k => ?_) (Ev.now _)
    simp only [switchbackref22_Digits.l0]
    rw [if_neg (by decide), str_ints]
    have hd : dd 0 = [] := rfl
    rw [hd, List.nil_append]
    by_cases h : x0 < 0
    · rw [if_pos h, if_pos h, if_pos (by rw [baL_size]; omega)]
      exact congrArg some (ba_cat [45] acc)
    · rw [if_neg h, if_neg h, List.nil_append]
  | succ d ih =>
    intro u acc hu hd hl
    by_cases h0 : u = 0
    · subst h0
      refine Ev.step (f := fun _ => some (baL ((if x0 < 0 then [45] else []) ++ (dd 0 ++ acc)))) (fun k => ?_) (Ev.now _)
      simp only [switchbackref22_Digits.l0]
      rw [if_neg (by decide), str_ints]
      have hd : dd 0 = [] := rfl
      rw [hd, List.nil_append]
      by_cases h : x0 < 0
      · rw [if_pos h, if_pos h, if_pos (by rw [baL_size]; omega)]
        exact congrArg some (ba_cat [45] acc)
      · rw [if_neg h, if_neg h, List.nil_append]
    · have hpow : (10 : Nat) ^ (d + 1) ≤ 10 ^ 20 := Nat.pow_le_pow_right (by decide) hd
      have hu2 : u < 100000000000000000000 := by omega
      have hu10 : u / 10 < 10 ^ d := by rw [Nat.pow_succ] at hu; omega
      have IH := ih (u / 10) (UInt8.ofNat (48 + u % 10) :: acc) hu10 (by omega) (by rw [List.length_cons]; omega)
      rw [dd_step u (by omega)]
      rw [List.append_assoc, List.singleton_append]
      refine Ev.step (fun k => ?_) IH
      simp only [switchbackref22_Digits.l0]
      rw [if_pos (by omega)]
      simp only [Option.bind_some]
      have e1 : (u : Int).tmod 10 = ((u % 10 : Nat) : Int) := by rw [Int.tmod_eq_emod_of_nonneg (by omega)]; omega
      have e2 : (u : Int).tdiv 10 = ((u / 10 : Nat) : Int) := by rw [Int.tdiv_eq_ediv_of_nonneg (by omega)]; omega
      have e3 : ([IntKind.u64.wrap (48 + (u : Int).tmod 10) % 256] : List Int) ++ ints acc = ints (UInt8.ofNat (48 + u % 10) :: acc) := by
        rw [e1, u64_id (by omega) (by omega)]
        show _ = (((UInt8.ofNat (48 + u % 10)).toNat : Nat) : Int) :: ints acc
        rw [ofNat_dig (by omega), List.singleton_append]
        congr 1
        omega
      have hil : (ints acc).length = acc.length := by unfold ints; rw [List.length_map]
      rw [if_pos (by rw [hil]; simp only [List.length_cons, List.length_nil]; omega), e3, e2, u64_id (by omega) (by omega)]

theorem digits_f (n : Int) (h0 : -9223372036854775808 ≤ n) (h1 : n ≤ 9223372036854775807) : Ev (fun k => switchbackref22_Digits.f k n) (baL (Lib.itoa n)) := by
  unfold switchbackref22_Digits.f
  by_cases hz : n = 0
  · subst hz
    simp only [if_pos]
    have e : Lib.itoa 0 = [48] := by rw [show (0 : Int) = ((0 : Nat) : Int) from rfl, Lib.itoa_nonneg, Lib.decDigits_one (by decide)]; rfl
    rw [e]
    exact Ev.now _
  · simp only [if_neg hz]
    by_cases hn : n < 0
    · simp only [if_pos hn]
      have e : IntKind.u64.wrap (-(IntKind.u64.wrap n)) = ((n.natAbs : Nat) : Int) := by
        rw [IntKind.wrap_u64, IntKind.wrap_u64]
        omega
      have h := digits_l0 n 20 n.natAbs [] (by have : (10 : Nat) ^ 20 = 100000000000000000000 := by decide
                                               omega) (Nat.le_refl _) (by simp)
      rw [if_pos hn, List.append_nil] at h
      have hr : Lib.itoa n = [45] ++ dd n.natAbs := by
        unfold Lib.itoa dd
        rw [if_pos hn, if_neg (by omega)]
        rfl
      rw [hr]
      refine Ev.step (fun k => ?_) h
      simp only [switchbackref22_Digits.j0]
      rw [e]
      rfl
    · simp only [if_neg hn]
      have e : IntKind.u64.wrap n = ((n.toNat : Nat) : Int) := by
        rw [IntKind.wrap_u64]
        omega
      have h := digits_l0 n 20 n.toNat [] (by have : (10 : Nat) ^ 20 = 100000000000000000000 := by decide
                                              omega) (Nat.le_refl _) (by simp)
      rw [if_neg hn, List.append_nil, List.nil_append] at h
      have hr : Lib.itoa n = dd n.toNat := by
        unfold Lib.itoa dd
        rw [if_neg hn, if_neg (by omega)]
      rw [hr]
      refine Ev.step (fun k => ?_) h
      simp only [switchbackref22_Digits.j0]
      rw [e]
      rfl

end Go.Proofs.YtlhgfhmdhmgmpaaGreatDoor.PZ3

set_option linter.unusedVariables false
set_option linter.unusedSimpArgs false
namespace Go.Proofs.YtlhgfhmdhmgmpaaGreatDoor.PZ3
open Go.RowKit Go.Proofs.YtlhgfhmdhmgmpaaGreatDoorW.PrintWords Go.Proofs.YtlhgfhmdhmgmpaaGreatDoorW.PrintLast Go.Proofs.YtlhgfhmdhmgmpaaGreatDoorW.PrintMore

theorem names_chk : (List.range 48).all (fun k => decide ((switchbackref22_Name.f ((k : Int) + 1)).map (fun s => s.data.toList) = some (opNames.getD k []))) = true := by kernel_rfl

theorem name_f (op : Int) (h1 : 1 ≤ op) (h2 : op ≤ 48) : switchbackref22_Name.f op = some (baL (opNames.getD (op.toNat - 1) [])) := by
  have h := of_decide_eq_true (List.all_eq_true.1 names_chk (op.toNat - 1) (List.mem_range.2 (by omega)))
  rw [show ((op.toNat - 1 : Nat) : Int) + 1 = op by omega] at h
  cases hn : switchbackref22_Name.f op with
  | none => rw [hn] at h; cases h
  | some s =>
    rw [hn, Option.map_some, Option.some.injEq] at h
    rw [← h, baL_data]

def hasNum (op : Int) : Bool := if op = 1 then true else if op = 4 then true else if op = 27 then true else if op = 28 then true else op == 48

theorem number_f (op : Int) : switchbackref22_number.f op = some (hasNum op) := by
  unfold switchbackref22_number.f hasNum
  repeat' split
  all_goals rfl

def hasThree (op : Int) : Bool := if op ≥ 5 then decide (op ≤ 23) else false

theorem three_f (op : Int) : switchbackref22_three.f op = some (hasThree op) := by
  unfold switchbackref22_three.f hasThree
  split <;> rfl

theorem branch16_f (n : Int) : switchbackref16_Branch.f n = some (isBr n) := by
  unfold switchbackref16_Branch.f isBr within
  by_cases h : n ≥ 30
  · rw [if_pos h, decide_eq_true (show (30 : Int) ≤ n from h), Bool.true_and]
  · rw [if_neg h, decide_eq_false (show ¬ (30 : Int) ≤ n from h), Bool.false_and]

def regsOf (op : Int) : Int := (switchbackref22_registers.f 4 op).getD 9

def shape (op : Int) : List Part :=
  ((if regsOf op ≥ 1 then [Part.reg 1] else []) ++ (if regsOf op ≥ 2 then [Part.reg 2] else [])) ++ ((if hasThree op = true then [Part.reg 3] else []) ++ ((if hasNum op = true then [Part.num] else []) ++ ((if op = 2 then [Part.word] else []) ++ ((if goOp op = true then [Part.place] else []) ++ (if op = 42 then [Part.places] else [])))))

def shChk (op : Int) : Bool := decide (partsP op = shape op) && decide (switchbackref22_registers.f 4 op = some (regsOf op))

theorem shapes_chk : (List.range 48).all (fun k => shChk ((k : Int) + 1)) = true := by kernel_rfl

theorem shape_of (op : Int) (h1 : 1 ≤ op) (h2 : op ≤ 48) : partsP op = shape op ∧ switchbackref22_registers.f 4 op = some (regsOf op) := by
  have h := List.all_eq_true.1 shapes_chk (op.toNat - 1) (List.mem_range.2 (by omega))
  rw [show ((op.toNat - 1 : Nat) : Int) + 1 = op by omega] at h
  unfold shChk at h
  rw [Bool.and_eq_true] at h
  exact ⟨of_decide_eq_true h.1, of_decide_eq_true h.2⟩

theorem regs_f (op : Int) (h1 : 1 ≤ op) (h2 : op ≤ 48) : Ev (fun k => switchbackref22_registers.f k op) (regsOf op) :=
  Ev.of (fun k => switchbackref22_registers.mono op k) (shape_of op h1 h2).2

theorem add1 {β : Type} (x p : List UInt8) (m : Nat) (n : Int) (D : Option ByteArray) (C : ByteArray → Option β) (hp : p.length = m) (hm : m ≤ 2) (h0 : -9223372036854775808 ≤ n) (h1 : n ≤ 9223372036854775807) (hD : D = some (baL (Lib.itoa n))) (hx : x.length ≤ 10000000) :
    (if (baL x).size + m ≤ 9223372036854775807 then (D.bind fun t => if (baL x ++ baL p).size + t.size ≤ 9223372036854775807 then C ((baL x ++ baL p) ++ t) else none) else none) = C (baL (x ++ (p ++ Lib.itoa n))) := by
  have hl := itoa_len n h0 h1
  have e : baL x ++ baL p = baL (x ++ p) := ba_cat x p
  have e2 : baL (x ++ p) ++ baL (Lib.itoa n) = baL ((x ++ p) ++ Lib.itoa n) := ba_cat _ _
  rw [hD, Option.bind_some, e, e2, baL_size, baL_size, baL_size, if_pos (by omega), if_pos (by rw [List.length_append]; omega), List.append_assoc]

theorem jt_one (x : List UInt8) : Lib.joinTail [32] [x] = 32 :: x := by simp [Lib.joinTail]

theorem lit_32_82 : (⟨#[32, 82]⟩ : ByteArray) = baL [32, 82] := rfl
theorem lit_32 : (⟨#[32]⟩ : ByteArray) = baL [32] := rfl

def P1 (op : Int) : List Part := (if regsOf op ≥ 1 then [Part.reg 1] else []) ++ (if regsOf op ≥ 2 then [Part.reg 2] else [])
def P2 (op : Int) : List Part := if hasThree op = true then [Part.reg 3] else []

theorem front_f (l : Line) (h1 : 1 ≤ l.op) (h2 : l.op ≤ 48) (hw : WfL l) :
    Ev (fun k => switchbackref22_front.f k l.op l.a l.b l.imm) (baL ((opNames.getD (l.op.toNat - 1) [] ++ Lib.joinTail [32] ((P1 l.op).map (partT l))) ++ Lib.joinTail [32] ((P2 l.op).map (partT l)))) := by
  obtain ⟨Ka, da⟩ := digits_f l.a hw.a0 hw.a1
  obtain ⟨Kb, db⟩ := digits_f l.b hw.b0 hw.b1
  obtain ⟨Ki, di⟩ := digits_f l.imm hw.i0 hw.i1
  obtain ⟨Kr, dr⟩ := regs_f l.op h1 h2
  replace dr : ∀ k, Kr ≤ k → switchbackref22_registers.f k l.op = some (regsOf l.op) := dr
  have la := itoa_len l.a hw.a0 hw.a1
  have lb := itoa_len l.b hw.b0 hw.b1
  obtain ⟨nm, hnm⟩ : ∃ nm, opNames.getD (l.op.toNat - 1) [] = nm := ⟨_, rfl⟩
  have hnl : nm.length ≤ 4 := by rw [← hnm]; exact nameS_len _
  refine ⟨Ka + Kb + Ki + Kr + 3, fun k hk => ?_⟩
  obtain ⟨j, rfl⟩ : ∃ j, k = j + 2 := ⟨k - 2, by omega⟩
  have J1 : ∀ x : List UInt8, x.length ≤ 1000 → switchbackref22_front.j1 (j + 1) l.op l.imm (baL x) = some (baL (x ++ Lib.joinTail [32] ((P2 l.op).map (partT l)))) := by
    intro x hx
    simp only [switchbackref22_front.j1]
    rw [three_f, Option.bind_some]
    unfold P2
    cases hasThree l.op with
    | false => simp [Lib.joinTail]
    | true =>
      rw [if_pos rfl, if_pos rfl, lit_32_82]
      rw [add1 x [32, 82] 2 l.imm _ (fun s => some s) rfl (by decide) hw.i0 hw.i1 (di j (by omega)) (by omega)]
      simp only [List.map_cons, List.map_nil, jt_one, partT, fieldI]
      rfl
  have J0 : ∀ x : List UInt8, x.length ≤ 500 → switchbackref22_front.j0 (j + 2) l.op l.b l.imm (baL x) (regsOf l.op) = some (baL ((x ++ Lib.joinTail [32] ((if regsOf l.op ≥ 2 then [Part.reg 2] else []).map (partT l))) ++ Lib.joinTail [32] ((P2 l.op).map (partT l)))) := by
    intro x hx
    simp only [switchbackref22_front.j0]
    by_cases hr : regsOf l.op ≥ 2
    · rw [if_pos hr, if_pos hr, lit_32_82, add1 x [32, 82] 2 l.b _ (fun s => switchbackref22_front.j1 (j + 1) l.op l.imm s) rfl (by decide) hw.b0 hw.b1 (db (j + 1) (by omega)) (by omega)]
      rw [J1 _ (by simp only [List.length_append, List.length_cons, List.length_nil]; omega)]
      simp only [List.map_cons, List.map_nil, jt_one, partT, fieldI]
      rfl
    · rw [if_neg hr, if_neg hr, J1 x (by omega)]
      simp [Lib.joinTail]
  show switchbackref22_front.f (j + 2) l.op l.a l.b l.imm = _
  unfold switchbackref22_front.f
  rw [name_f l.op h1 h2, hnm, Option.bind_some, dr (j + 2) (by omega), Option.bind_some]
  unfold P1
  by_cases hr : regsOf l.op ≥ 1
  · rw [if_pos hr, if_pos hr, lit_32_82, add1 nm [32, 82] 2 l.a _ (fun s => switchbackref22_front.j0 (j + 2) l.op l.b l.imm s (regsOf l.op)) rfl (by decide) hw.a0 hw.a1 (da (j + 2) (by omega)) (by omega)]
    rw [J0 _ (by simp only [List.length_append, List.length_cons, List.length_nil]; omega), List.map_append, joinTail_app]
    simp only [List.map_cons, List.map_nil, jt_one, partT, fieldI]
    congr 2
    simp
  · rw [if_neg hr, if_neg hr, J0 nm (by omega)]
    simp [Lib.joinTail]

end Go.Proofs.YtlhgfhmdhmgmpaaGreatDoor.PZ3

set_option linter.unusedVariables false
set_option linter.unusedSimpArgs false
namespace Go.Proofs.YtlhgfhmdhmgmpaaGreatDoor.PZ3
open Go.RowKit Go.Proofs.YtlhgfhmdhmgmpaaGreatDoorW.PrintWords Go.Proofs.YtlhgfhmdhmgmpaaGreatDoorW.PrintLast Go.Proofs.YtlhgfhmdhmgmpaaGreatDoorW.PrintMore

def inW (x : Int) : Bool := decide (0 ≤ x) && decide (x < 4294967296)

theorem inW_all {l : List Int} (h : l.all inW = true) : ∀ x ∈ l, 0 ≤ x ∧ x < 4294967296 := fun x hx => by
  have := List.all_eq_true.1 h x hx
  unfold inW at this
  simpa using this

theorem bt_hex (d : Nat) (hd : d < 16) : Go.Proofs.YtlhgfhmdhmgmpaaGreatDoorW.PrintWords.bt (⟨#[48, 49, 50, 51, 52, 53, 54, 55, 56, 57, 97, 98, 99, 100, 101, 102]⟩ : ByteArray) (d : Int) = ((hexC d).toNat : Int) := by
  have : ∀ d : Nat, d < 16 → Go.Proofs.YtlhgfhmdhmgmpaaGreatDoorW.PrintWords.bt (⟨#[48, 49, 50, 51, 52, 53, 54, 55, 56, 57, 97, 98, 99, 100, 101, 102]⟩ : ByteArray) (d : Int) = ((hexC d).toNat : Int) := by decide +kernel
  exact this d hd

theorem hex_step (k n i : Nat) (hi : i ≤ 7) (hn : n < 4294967296) (L : List UInt8) (hL : L.length ≤ 100) :
    switchbackref22_hex.l0 (k + 1) (n : Int) (ints L) (i : Int) = switchbackref22_hex.l0 k (n : Int) (ints (L ++ [hexC (n / 16 ^ i % 16)])) ((i : Int) - 1) := by
  have hw : IntKind.u64.wrap (wrap64 (4 * (i : Int))) = ((4 * i : Nat) : Int) := by
    rw [show (4 * (i : Int)) = ((4 * i : Nat) : Int) by omega, show wrap64 ((4 * i : Nat) : Int) = ((4 * i : Nat) : Int) by unfold wrap64; omega]
    exact IntWalk.u64_in _ (by omega)
  have hs : shr .u32 (n : Int) ((4 * i : Nat) : Int) = ((n / 16 ^ i : Nat) : Int) := by
    unfold shr
    rw [show ((4 * i : Nat) : Int).toNat = 4 * i by omega, show min (4 * i) IntKind.u32.bits = 4 * i from Nat.min_eq_left (by show 4 * i ≤ 32; omega)]
    rw [show (16 : Nat) ^ i = 2 ^ (4 * i) by rw [Nat.pow_mul]]
    rw [Int.natCast_ediv]
    norm_cast
  have hm : Int.tmod ((n / 16 ^ i : Nat) : Int) 16 = ((n / 16 ^ i % 16 : Nat) : Int) := by
    rw [Int.tmod_eq_emod_of_nonneg (Int.natCast_nonneg _)]
    generalize n / 16 ^ i = q
    omega
  have hd : n / 16 ^ i % 16 < 16 := Nat.mod_lt _ (by decide)
  rw [switchbackref22_hex.l0, hw, hs, hm, if_pos (by omega), if_pos (by omega), if_pos (by omega), if_pos (by omega), if_pos (by unfold ints; rw [List.length_map]; omega), bt_hex _ hd]
  rw [show wrap64 ((i : Int) - 1) = (i : Int) - 1 by unfold wrap64; omega]
  congr 1
  unfold ints
  rw [List.map_append]
  rfl

theorem hex_f (n : Nat) (hn : n < 4294967296) : Ev (fun k => switchbackref22_hex.f k (n : Int)) (baL (digs 8 n)) := by
  refine ⟨9, fun k hk => ?_⟩
  obtain ⟨j, rfl⟩ : ∃ j, k = j + 9 := ⟨k - 9, by omega⟩
  show switchbackref22_hex.l0 (j + 9) (n : Int) (ints []) ((7 : Nat) : Int) = _
  rw [hex_step _ n 7 (by omega) hn _ (by simp), show (((7 : Nat) : Int) - 1) = ((6 : Nat) : Int) by omega,
    hex_step _ n 6 (by omega) hn _ (by simp), show (((6 : Nat) : Int) - 1) = ((5 : Nat) : Int) by omega,
    hex_step _ n 5 (by omega) hn _ (by simp), show (((5 : Nat) : Int) - 1) = ((4 : Nat) : Int) by omega,
    hex_step _ n 4 (by omega) hn _ (by simp), show (((4 : Nat) : Int) - 1) = ((3 : Nat) : Int) by omega,
    hex_step _ n 3 (by omega) hn _ (by simp), show (((3 : Nat) : Int) - 1) = ((2 : Nat) : Int) by omega,
    hex_step _ n 2 (by omega) hn _ (by simp), show (((2 : Nat) : Int) - 1) = ((1 : Nat) : Int) by omega,
    hex_step _ n 1 (by omega) hn _ (by simp), show (((1 : Nat) : Int) - 1) = ((0 : Nat) : Int) by omega,
    hex_step _ n 0 (by omega) hn _ (by simp)]
  rw [switchbackref22_hex.l0, if_neg (by omega), str_ints]
  congr 2
  simp only [digs, Nat.div_div_eq_div_mul, List.nil_append, List.append_assoc, List.cons_append, Nat.reduceMul, Nat.reducePow, Nat.div_one]

/-! ### shown -/
def showChk (op : Int) : Bool := decide ((partsP op).filter isRN = P1 op ++ P2 op ++ (if hasNum op = true then [Part.num] else [])) && (if hasNum op = true then !brJ op else ((if isBr op = true then true else op == 40) == brJ op))

theorem show_chk : (List.range 48).all (fun k => showChk ((k : Int) + 1)) = true := by kernel_rfl

theorem show_of (op : Int) (h1 : 1 ≤ op) (h2 : op ≤ 48) : (partsP op).filter isRN = P1 op ++ P2 op ++ (if hasNum op = true then [Part.num] else []) ∧ (if hasNum op = true then !brJ op else ((if isBr op = true then true else op == 40) == brJ op)) = true := by
  have h := List.all_eq_true.1 show_chk (op.toNat - 1) (List.mem_range.2 (by omega))
  rw [show ((op.toNat - 1 : Nat) : Int) + 1 = op by omega] at h
  unfold showChk at h
  rw [Bool.and_eq_true] at h
  exact ⟨of_decide_eq_true h.1, h.2⟩

theorem j0_f (x : List UInt8) (b : Bool) (op a c imm : Int) (h0 : -9223372036854775808 ≤ imm) (h1 : imm ≤ 9223372036854775807) (hx : x.length ≤ 1100000) :
    Ev (fun k => switchbackref22_shown.j0 k (baL x) b op a c imm) (baL (x ++ (if b = true then 32 :: Lib.itoa imm else []))) := by
  obtain ⟨K, hK⟩ := digits_f imm h0 h1
  refine ⟨K + 1, fun k hk => ?_⟩
  obtain ⟨j, rfl⟩ : ∃ j, k = j + 1 := ⟨k - 1, by omega⟩
  show switchbackref22_shown.j0 (j + 1) (baL x) b op a c imm = _
  rw [switchbackref22_shown.j0]
  cases b with
  | false => simp
  | true =>
    rw [if_pos rfl, if_pos rfl, lit_32]
    exact add1 x [32] 1 imm _ (fun s => some s) rfl (by decide) h0 h1 (hK j (by omega)) (by omega)

theorem shown_f (v k : Int) (hv : 0 ≤ v ∧ v < 4294967296) : Ev (fun n => switchbackref22_shown.f n v k) (baL (whatP v k)) := by
  unfold switchbackref22_shown.f whatP
  by_cases h2 : k = 2
  · subst h2; exact ⟨0, fun n _ => rfl⟩
  by_cases h3 : k = 3
  · subst h3; exact ⟨0, fun n _ => rfl⟩
  by_cases h1 : k = 1
  · subst h1
    simp only [show ¬ ((1 : Int) = 2) by decide, show ¬ ((1 : Int) = 3) by decide, if_false, if_true]
    have hd : switchbackref16_Decode.f v = some ((dec v).1.1, (dec v).1.2.1, (dec v).1.2.2.1, (dec v).1.2.2.2, (dec v).2) := by
      unfold switchbackref16_Decode.f
      rw [if_pos hv, dec_eq]
    simp only [hd, Option.bind_some]
    by_cases hz : (dec v).2 = 0
    · have hok := dec_okL hv hz
      have hwf := insL_wf hv hz
      have hfr := front_f (insL v) hok.1.1 hok.1.2 hwf
      obtain ⟨hs1, hs2⟩ := show_of (dec v).1.1 hok.1.1 hok.1.2
      have hP : insP v = Lib.join (insW v) [32] := by unfold insP; rw [if_pos hz]
      rw [hP]
      simp only [if_pos hz]
      obtain ⟨x, hx⟩ : ∃ x, (opNames.getD ((dec v).1.1.toNat - 1) [] ++ Lib.joinTail [32] ((P1 (dec v).1.1).map (partT (insL v)))) ++ Lib.joinTail [32] ((P2 (dec v).1.1).map (partT (insL v))) = x := ⟨_, rfl⟩
      replace hfr : Ev (fun k => switchbackref22_front.f k (dec v).1.1 (dec v).1.2.1 (dec v).1.2.2.1 (dec v).1.2.2.2) (baL x) := by rw [← hx]; exact hfr
      have hxl : x.length ≤ 1100000 := by
        have h5 := insP_len v hv
        rw [hP] at h5
        unfold insW at h5
        rw [hs1] at h5
        rw [← hx]
        simp only [List.cons_append, Lib.join_cons, List.map_append, joinTail_app, List.length_append] at h5 ⊢
        omega
      have key : Lib.join (insW v) [32] = x ++ (if hasNum (dec v).1.1 = true then 32 :: Lib.itoa (dec v).1.2.2.2 else (if brJ (dec v).1.1 = true then 32 :: Lib.itoa (dec v).1.2.2.2 else [])) := by
        unfold insW
        rw [hs1, ← hx, List.cons_append, Lib.join_cons]
        simp only [List.map_append, joinTail_app, List.append_assoc]
        cases hn : hasNum (dec v).1.1 with
        | true =>
          rw [hn] at hs2
          have hb : brJ (dec v).1.1 = false := by simpa using hs2
          rw [hb]
          simp [jt_one, Lib.joinTail, partT, insL]
        | false =>
          cases hb : brJ (dec v).1.1 <;> simp [jt_one, Lib.joinTail]
      rw [key]
      refine Ev.bind hfr ?_
      have himm : -9223372036854775808 ≤ (dec v).1.2.2.2 ∧ (dec v).1.2.2.2 ≤ 9223372036854775807 := by have := hok.2.2.2.1; omega
      simp only [number_f, branch16_f, Option.bind_some]
      cases hn : hasNum (dec v).1.1 with
      | true =>
        simp only [if_true]
        exact j0_f x true _ _ _ _ himm.1 himm.2 hxl
      | false =>
        rw [hn] at hs2
        simp only [Bool.false_eq_true, if_false] at hs2 ⊢
        cases hb : isBr (dec v).1.1 with
        | true =>
          rw [hb] at hs2
          have e : brJ (dec v).1.1 = true := by simpa using hs2
          rw [e]
          simp only [if_true]
          exact j0_f x true _ _ _ _ himm.1 himm.2 hxl
        | false =>
          rw [hb] at hs2
          have e : ((dec v).1.1 == 40) = brJ (dec v).1.1 := by simpa using hs2
          rw [← e]
          simp only [Bool.false_eq_true, if_false]
          exact j0_f x _ _ _ _ _ himm.1 himm.2 hxl
    · have hP : insP v = [63] := by unfold insP; rw [if_neg hz]
      rw [hP]
      exact ⟨0, fun n _ => by simp only [if_neg hz]; rfl⟩
  · simp only [if_neg h2, if_neg h3, if_neg h1]
    exact ⟨0, fun n _ => rfl⟩

theorem showR_done (A0 A1 A2 : Option Addr) (c0 c1 c2 : Nat) (ws ks ds : List Int) (ent : Int) (w : World)
    (r0 : (Kd.int .u32).C w A0 ws.length ws) (r1 : (Kd.int .i64).C w A1 ks.length ks) (r2 : (Kd.int .u32).C w A2 ds.length ds)
    (hw0 : ∀ x ∈ ws, 0 ≤ x ∧ x < 4294967296) (hw2 : ∀ x ∈ ds, 0 ≤ x ∧ x < 4294967296) (he : -9223372036854775808 ≤ ent ∧ ent ≤ 9223372036854775807) (l0 : ws.length ≤ 1100000) (l1 : ks.length ≤ 1000000000) (l2 : ds.length ≤ 1100000) :
    Calls Tryz.prog 17 #[.agg #[.slice A0 ws.length c0, .slice A1 ks.length c1, .slice A2 ds.length c2, .int .i64 ent]] w fun e w' => e = .returned (.string ⟨(showP ws ks ds ent).toArray⟩) ∧ Below w.heap.size w w' := by
  refine showR_any A0 A1 A2 c0 c1 c2 ws ks ds ent w ?_ ?_ ?_ r0 r1 r2 hw0 hw2 he l0 l1 l2
  · intro n W h0 h1
    obtain ⟨k, hk⟩ := (digits_f n h0 h1).rounds
    exact switchbackref22_Digits.calls k n _ W hk
  · intro v W h0 h1
    obtain ⟨u, rfl⟩ : ∃ u : Nat, v = u := ⟨v.toNat, by omega⟩
    obtain ⟨k, hk⟩ := (hex_f u (by omega)).rounds
    exact switchbackref22_hex.calls k u _ W hk
  · intro v kd W h0 h1
    obtain ⟨k, hk⟩ := (shown_f v kd ⟨h0, h1⟩).rounds
    exact switchbackref22_shown.calls k v kd _ W hk

end Go.Proofs.YtlhgfhmdhmgmpaaGreatDoor.PZ3
