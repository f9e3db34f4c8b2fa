/- list.Parse: walked. -/
import Derived.Test.YtlhgfhmdhmgmpaaGreatDoorLiV
import Derived.Test.YtlhgfhmdhmgmpaaGreatDoorLiTZ
set_option linter.unusedVariables false
set_option linter.unusedSimpArgs false
namespace Go.Proofs.YtlhgfhmdhmgmpaaGreatDoor
open Go.RowKit Go.Proofs.YtlhgfhmdhmgmpaaGreatDoorW.PrintWords Go.Joins Go.Maps

/-! ### rows of lines that were read -/
def LCells (w : World) (B : Nat) (row : Option Nat) (l : Line) (cs : List Value) : Prop :=
  ∃ A c, cs = [.int .i64 l.op, .int .i64 l.a, .int .i64 l.b, .int .i64 l.imm, .int .u32 l.n, .int .i64 l.label, .slice A l.list.length c] ∧ (l.list.length ≤ c ∧ (∀ ad, A = some ad → B ≤ ad.block ∧ some ad.block ≠ row)) ∧ KO w A c l.list.length l.list

/-- A row of lines of the call's own, whose lists lie elsewhere. -/
def LR (w : World) (B : Nat) (v : Value) (ls : List Line) : Prop := ∃ xs, w.ownsRow B 49 7 v ls.length xs ∧ Reps (LCells w B v.ownBlock) 7 ls xs

theorem LR.nil (w : World) (B : Nat) : LR w B (.slice none 0 0) [] := ⟨[], ⟨rfl, .inl ⟨rfl, rfl⟩⟩, ⟨rfl, fun j p h => by simp at h⟩⟩

theorem reps_imp {α : Type} {R R' : α → List Value → Prop} {size : Nat} {ps : List α} {cs : List Value} (h : Reps R size ps cs) (hi : ∀ p ∈ ps, ∀ c, R p c → R' p c) : Reps R' size ps cs := ⟨h.1, fun j p hj => hi p (List.mem_of_getElem? hj) _ (h.2 j p hj)⟩

theorem LR.below {w w' : World} {B : Nat} {v : Value} {ls : List Line} (h : LR w B v ls) (hb : Below w.heap.size w w') : LR w' B v ls := by
  obtain ⟨xs, h1, h2⟩ := h
  exact ⟨xs, li_own_below h1 hb, reps_imp h2 fun p _ c ⟨A, c', e, hf, hr⟩ => ⟨A, c', e, hf, KO.below hr hb⟩⟩

theorem LR.lines {w : World} {B : Nat} {v : Value} {ls : List Line} (h : LR w B v ls) : Lines w v ls := by
  obtain ⟨xs, h1, h2⟩ := h
  obtain ⟨A, c, rfl, hr⟩ := own_reads_row (R := kLine.K w) h1 (reps_imp h2 fun p _ cs ⟨A, c', e, hf, hr⟩ => by
    subst e
    exact ⟨[_], _, rfl, rfl, [_], _, rfl, rfl, [_], _, rfl, rfl, [_], _, rfl, rfl, [_], _, rfl, rfl, [_], _, rfl, rfl, A, c', rfl, hf.1, hr.1⟩) rfl
  exact ⟨A, c, rfl, hr⟩

theorem LR.slice {w : World} {B : Nat} {v : Value} {ls : List Line} (h : LR w B v ls) : ∃ A c, v = .slice A ls.length c := by
  obtain ⟨xs, h1, _⟩ := h
  rcases h1.2 with ⟨rfl, h0⟩ | ⟨g, cap, cur, rfl, _⟩
  · exact ⟨none, 0, by rw [h0]⟩
  · exact ⟨_, _, rfl⟩

theorem lr_base {w : World} {B : Nat} {v : Value} {ls : List Line} (h : LR w B v ls) (k : Nat) (hk : v.ownBlock = some k) : B ≤ k := by
  obtain ⟨xs, h1, _⟩ := h
  exact base_le_of h1 k hk

theorem infoLine : ∃ z : Value, (Tryz.prog.info? 49).map (fun i => (i.zero, i.size, i.bytes)) = some (some z, 7, 72) ∧ z.cells.size = 7 := ⟨.agg #[.int .i64 0, .int .i64 0, .int .i64 0, .int .i64 0, .int .u32 0, .int .i64 0, .slice none 0 0], by kernel_rfl, rfl⟩

theorem ar_list {w : World} {ops : Array Oper} {rest : List Oper} {o : Oper} {a : Act} {Q : Exit → Act → World → Prop} (hgd : o.guard = none) (s x : Operand)
    (ho : o.op = .call { callee := .builtin .append, args := #[s, x], argTypes := #[22, 22] })
    (B : Nat) (v : Value) (ls : List Line) (hs : a.eval s = v) (hown : LR w B v ls)
    (g : Nat) (c : Nat) (l : Line) (cs : List Value) (hx : a.eval x = .slice (some ⟨g, 0, none⟩) 1 c) (hnew : ∀ j u, cs[j]? = some u → w.cell? ((⟨g, 0, none⟩ : Addr).add j) = some u) (hl : LCells w B v.ownBlock l cs)
    (hle : ls.length + 1 ≤ 4294967291) (hB : B ≤ w.heap.size)
    (h : ∀ v' w', LR w' B v' (ls ++ [l]) → w.grownBy w' v.ownBlock → wpList Tryz.prog ops Q rest (a.put o.dst v') w') :
    wpList Tryz.prog ops Q (o :: rest) a w := by
  obtain ⟨z, hz, hz7⟩ := infoLine
  obtain ⟨i, hi, hii⟩ := Option.map_eq_some_iff.1 hz
  simp only [Prod.mk.injEq] at hii
  obtain ⟨h1, h2, h3⟩ := hii
  obtain ⟨xs, ho1, ho2⟩ := hown
  have hlen : cs.length = 7 := by obtain ⟨A, c', e, _⟩ := hl; rw [e]; rfl
  refine wpList_append_own_at w hgd s x 22 ho B 49 i z 7 72 Tryz.underlying22 hi h1 h2 h3 hz7 (by decide) v ls.length xs hs ho1 ⟨g, 0, none⟩ 1 c cs hx (by rw [hlen]) hnew (fun u hu => ?_) (by unfold maxLen; omega) (by omega) hB ?_
  · obtain ⟨A, c', e, _⟩ := hl
    subst e
    simp only [List.mem_cons, List.not_mem_nil, or_false] at hu
    rcases hu with rfl | rfl | rfl | rfl | rfl | rfl | rfl <;> rfl
  · intro v' w' k1 k2 _ k4
    refine h v' w' ?_ k2
    have key : ∀ p cc, LCells w B v.ownBlock p cc → LCells w' B v'.ownBlock p cc := fun p cc ⟨A, c', e, hf, hr⟩ => by
      refine ⟨A, c', e, ⟨hf.1, fun ad ha => ?_⟩, KO.keep hr fun ad ha => ?_⟩
      · refine ⟨(hf.2 ad ha).1, ?_⟩
        rcases k4 with e4 | e4
        · rw [e4]; exact (hf.2 ad ha).2
        · rw [e4]
          obtain ⟨_, cur, hc, _⟩ := hr.2.2 ad ha
          have := (Array.getElem?_eq_some_iff.1 hc).1
          intro e6
          injection e6 with e6
          omega
      · obtain ⟨_, cur, hc, _⟩ := hr.2.2 ad ha
        exact k2.block ad.block (Array.getElem?_eq_some_iff.1 hc).1 (hf.2 ad ha).2
    refine ⟨xs ++ cs, by rw [List.length_append]; exact k1, ?_⟩
    exact (reps_imp ho2 fun p _ c hc => key p c hc).snoc (key _ _ hl) hlen

def lineP (x : ByteArray) (r : List ByteArray) : Option Line :=
  if (Lib.hasSuffix x.data.toList [58] && decide (r = [])) = true then labelR (Lib.trimSuffix x.data.toList [58]) else lineI x r

theorem line_any (g : Nat) (x : ByteArray) (r : List ByteArray) (c : Nat) (w : World) (hL : LLaid w) (hg : g < w.heap.size) (hc : (x :: r).length ≤ c) (hce : ∀ (j : Nat) y, (x :: r)[j]? = some y → w.cell? ⟨g, 0 + j, none⟩ = some (.string y)) (hsz : ∀ y ∈ x :: r, y.size ≤ 281474976710656) (hlen : r.length ≤ 4294967296) :
    Calls Tryz.prog 29 #[.slice (some ⟨g, 0, none⟩) (x :: r).length c] w (LineR (lineP x r) w) := by
  have h16 : 8 + 1 ≤ w.heap.size := hL.big2
  have hws : WS w w.heap.size (.slice (some ⟨g, 0, none⟩) (x :: r).length c) (x :: r) := ⟨_, _, rfl, hc, (fun ad e => by cases e; exact hg), fun j y hy => ⟨_, rfl, by
    have := hce j y hy
    rw [show ((⟨g, 0, none⟩ : Addr).add j) = ⟨g, 0 + j, none⟩ by unfold Addr.add; split <;> simp_all]
    exact this⟩⟩
  unfold lineP
  by_cases hr : r = []
  · subst hr
    cases hs : Lib.hasSuffix x.data.toList [58] with
    | true =>
      have h0 : w.cell? ⟨g, 0, none⟩ = some (.string x) := hce 0 x rfl
      exact line_label ⟨g, 0, none⟩ c x w hL h0 (hsz x (by simp)) hs
    | false => exact line_other ⟨g, 0, none⟩ c x [] w hL hws hsz hlen h16 (.inl hs)
  · rw [if_neg (by simp [hr])]
    exact line_other ⟨g, 0, none⟩ c x r w hL hws hsz hlen h16 (.inr hr)

def strSize : Value → Nat
  | .string s => s.size
  | _ => 0

/-! ### Parse -/
def finP (acc : List Line) : List Line × Int × Int := if 60000 < acc.length then ([], 0, 2) else (acc, 0, 0)

def parseF : Nat → ByteArray → Nat → List Line → List Line × Int × Int
  | 0, _, _, acc => finP acc
  | f + 1, s, i, acc =>
    if s.size = 0 then finP acc
    else match wordsR (oneR s) with
      | [] => parseF f (restR s) (i + 1) acc
      | x :: r => match lineP x r with
        | none => ([], (i : Int), 220)
        | some l => parseF f (restR s) (i + 1) (acc ++ [l])

def parseR (s : ByteArray) : List Line × Int × Int := parseF s.size s 0 []

theorem parseF_end {s : ByteArray} (h : s.size = 0) (f i : Nat) (acc : List Line) : parseF f s i acc = finP acc := by
  cases f with
  | zero => rfl
  | succ f => rw [parseF, if_pos h]

set_option maxHeartbeats 4000000 in
set_option maxRecDepth 100000 in
theorem parse_any (s : ByteArray) (w : World) (hL : LLaid w) (hs : s.size ≤ 4294967290) :
    Calls Tryz.prog 12 #[.string s] w fun e w' => ∃ v, e = .returned (.tuple #[v, .int .i64 (parseR s).2.1, .int .i64 (parseR s).2.2]) ∧ LR w' w.heap.size v (parseR s).1 ∧ Below w.heap.size w w' := by
  have HL := Lib.hid hL
  clear hL
  go_enter Tryz.func12, Tryz.ntmps12
  go_wp2_with fail
  go_loopw [0, 5, 6] (fun v0 v5 v6 wr => ∃ (cur : ByteArray) (i f : Nat) (acc : List Line) (A : Option Addr) (c : Nat), v0 = .string cur ∧ v5 = .slice A acc.length c ∧ v6 = .int .i64 i ∧ Hid (LR wr w.heap.size (.slice A acc.length c) acc) ∧ Hid (parseF f cur i acc = parseR s) ∧ Hid (cur.size ≤ f) ∧ Hid (cur.size + i ≤ s.size) ∧ Hid (acc.length ≤ i) ∧ Hid (Below w.heap.size w wr)) (fun v _ _ _ => strSize v)
  case atStart => exact ⟨s, 0, s.size, [], none, 0, rfl, rfl, rfl, Lib.hid (LR.nil _ _), Lib.hid rfl, Lib.hid (Nat.le_refl _), Lib.hid (by omega), Lib.hid (Nat.le_refl _), Lib.hid (Below.refl _ _)⟩
  case round =>
    obtain ⟨cur, i, f, acc, A, c, rfl, rfl, rfl, hR, hP, hf, hci, hai, hB⟩ := hrel
    by_cases h0 : cur.size = 0
    · have hE := Lib.hid (show parseR s = finP acc by rw [← hP.out]; exact parseF_end h0 _ _ _)
      have hem : cur = ⟨#[]⟩ := by
        cases cur with
        | mk d => congr 1; exact Array.eq_empty_of_size_eq_zero h0
      subst hem
      clear h0 hP hf hci
      by_cases hb : 60000 < acc.length
      · have hd : decide ((60000 : Int) < (acc.length : Int)) = true := decide_eq_true (by omega)
        have hE2 := Lib.hid (show parseR s = ([], 0, 2) by rw [hE.out]; unfold finP; rw [if_pos hb])
        clear hb
        go_wp2_with fail
        go_ret3
        exact ⟨.slice none 0 0, by rw [hE2.out]; rfl, by rw [hE2.out]; exact LR.nil _ _, hB.out⟩
      · have hd : decide ((60000 : Int) < (acc.length : Int)) = false := decide_eq_false (by omega)
        have hE2 := Lib.hid (show parseR s = (acc, 0, 0) by rw [hE.out]; unfold finP; rw [if_neg hb])
        clear hb
        go_wp2_with fail
        go_ret3
        exact ⟨.slice A acc.length c, by rw [hE2.out]; rfl, by rw [hE2.out]; exact hR.out, hB.out⟩
    · obtain ⟨f, rfl⟩ : ∃ f', f = f' + 1 := ⟨f - 1, by have := hf.out; omega⟩
      have hne : cur.toList.isEmpty = false := by
        rw [ByteArray.toList_eq]
        cases h : cur.data.toList with
        | nil => exact absurd (by rw [show cur.size = cur.data.toList.length by rw [Array.length_toList]; rfl, h]; rfl) h0
        | cons a b => rfl
      have hne2 : (!cur.toList.isEmpty) = true := by rw [hne]; rfl
      have hne3 : (cur.toList == []) = false := by cases h : cur.toList with
        | nil => rw [h] at hne; cases hne
        | cons a b => rfl
      have hne4 : (cur.toList != []) = true := by rw [bne, hne3]; rfl
      have hrl := restR_lt cur h0
      have hcs : cur.size ≤ 4294967290 := by have := hci.out; omega
      have hi0 : i ≤ 4294967290 := by have := hci.out; omega
      have hol := oneR_le cur
      have HPF := Lib.hid (show parseF (f + 1) cur i acc = (match wordsR (oneR cur) with
        | [] => parseF f (restR cur) (i + 1) acc
        | x :: r => match lineP x r with
          | none => ([], (i : Int), 220)
          | some l => parseF f (restR cur) (i + 1) (acc ++ [l])) by rw [parseF, if_neg h0])
      rw [hP.out] at HPF
      have HC := Lib.hid (cut_any cur wr (by omega))
      have HWA := Lib.hid (fun W => words_any (oneR cur) W (by omega))
      have hws := wordsR_small (oneR cur)
      generalize oneR cur = O at HC HWA HPF hws hol
      generalize restR cur = T at HC HPF hrl
      generalize wordsR O = ws at HWA HPF hws
      clear hP h0
      go_wp2_with fail
      refine HC.out.mono ?_
      rintro e w1 ⟨⟨bb, rfl⟩, hb1⟩
      have HB1 := Lib.hid (bj hB.out hb1)
      have HR1 := Lib.hid (hR.out.below hb1)
      clear hb1
      go_wp2_with fail
      refine (HWA.out w1).mono ?_
      rintro e w2 ⟨G, rfl, hG, hO, hb2⟩
      have HB2 := Lib.hid (bj HB1.out hb2)
      have HR2 := Lib.hid (HR1.out.below hb2)
      have HO2 := Lib.hid hO
      have hf1 : T.size ≤ f := by have := hf.out; omega
      have hci1 : T.size + (i + 1) ≤ s.size := by have := hci.out; omega
      have hTc : T.size < cur.size := hrl
      clear hb2 hO hG hrl hf hci
      cases ws with
      | nil =>
        have hP2 := Lib.hid (show parseF f T (i + 1) acc = parseR s from HPF.out.symm)
        rw [show ([] : List ByteArray).length = 0 from rfl]
        go_wp2_with fail
        go_roundw
        case rel => exact ⟨T, i + 1, f, acc, A, c, rfl, rfl, by go_num, HR2, hP2, Lib.hid hf1, Lib.hid hci1, Lib.hid (Nat.le_succ_of_le hai.out), HB2⟩
        case measure => exact hTc
      | cons x r =>
        obtain ⟨g', c', e', hg1, hg2, hg3, hg4⟩ := HO2.out.open_ (by simp)
        cases e'
        have hlx : ((((x :: r).length : Nat) : Int) == 0) = false := beq_eq_false_iff_ne.mpr (by simp only [List.length_cons]; omega)
        have HLA := Lib.hid (line_any G x r (x :: r).length w2 (HL.out.below HB2.out) hg2 (Nat.le_refl _) hg4 (fun y hy => by have := hws.1 y hy; omega) (by have := hws.2; simp only [List.length_cons] at this; omega))
        clear hg1 hg2 hg3 hg4 hws
        go_wp2_with fail
        refine HLA.out.mono ?_
        rintro e w3 ⟨ok, l, v, rfl, hlp, ⟨Al, nl, cl, rfl⟩, hlist, hb3⟩
        have HB3 := Lib.hid (bj HB2.out hb3)
        have HR3 := Lib.hid (HR2.out.below hb3)
        have HLP := Lib.hid hlp
        have HLS := Lib.hid hlist
        have HS3 := Lib.hid (show ∀ k, (Value.slice A acc.length c).ownBlock = some k → k < w2.heap.size from fun k hk => by obtain ⟨xs, h1, _⟩ := HR2.out; exact own_lt h1 k hk)
        clear hb3 hlp hlist HLA
        unfold lineV
        cases ok with
        | false =>
          have hE2 := Lib.hid (show parseR s = ([], (i : Int), 220) by rw [HPF.out]; show (match lineP x r with | none => _ | some l => _) = _; rw [HLP.out]; rfl)
          go_wp2_with fail
          go_ret3
          exact ⟨.slice none 0 0, by rw [hE2.out]; rfl, by rw [hE2.out]; exact LR.nil _ _, HB3.out.alloc HB3.out.size _⟩
        | true =>
          obtain ⟨A4, c4, e4, ⟨hcap, hfar⟩, hk4⟩ := HLS.out rfl
          cases e4
          have hP2 := Lib.hid (show parseF f T (i + 1) (acc ++ [l]) = parseR s by rw [HPF.out]; show _ = (match lineP x r with | none => _ | some l => _); rw [HLP.out]; rfl)
          have hla : acc.length + 1 ≤ 4294967291 := by have := hai.out; omega
          have hbx : Below w3.heap.size w3 ((w3.alloc (lineO l (.slice Al l.list.length cl))).alloc (lineO l (.slice Al l.list.length cl))) := ((Below.refl _ _).alloc (Nat.le_refl _) _).alloc (by simp) _
          have HR5 := Lib.hid (HR3.out.below hbx)
          have HB5 := Lib.hid (bj HB3.out hbx)
          have HK5 := Lib.hid (KO.below hk4 hbx)
          have HCAP := Lib.hid hcap
          have HF5 := Lib.hid (show ∀ ad, Al = some ad → w.heap.size ≤ ad.block ∧ some ad.block ≠ (Value.slice A acc.length c).ownBlock from fun ad e => ⟨by have h2 := hfar ad e; have h3 := HB2.out.size; omega, fun e2 => by have h1 := HS3.out ad.block e2.symm; have h2 := hfar ad e; omega⟩)
          have HN5 := Lib.hid (show ∀ j u, [Value.int .i64 l.op, .int .i64 l.a, .int .i64 l.b, .int .i64 l.imm, .int .u32 l.n, .int .i64 l.label, .slice Al l.list.length cl][j]? = some u → ((w3.alloc (lineO l (.slice Al l.list.length cl))).alloc (lineO l (.slice Al l.list.length cl))).cell? ((⟨w3.heap.size + 1, 0, none⟩ : Addr).add j) = some u from fun j u hu => by
            rw [show ((⟨w3.heap.size + 1, 0, none⟩ : Addr).add j) = ⟨w3.heap.size + 1, j, none⟩ by unfold Addr.add; split <;> simp_all]
            exact knA (by simp) j (by simpa using hu))
          unfold lineO at HN5 HR5 HB5 HK5
          clear hbx hcap hfar hk4
          go_wp2_with (at_builtin; refine ar_list rfl (.tmp 34) (.tmp 36) rfl w.heap.size (.slice A acc.length c) acc rfl HR5.out (w3.heap.size + 1) 1 l _ rfl HN5.out ⟨Al, cl, rfl, ⟨HCAP.out, HF5.out⟩, HK5.out⟩ hla HB5.out.size ?_; intro v6 w6 hr6 hg6; have HR6 := Lib.hid hr6; have HB6 := Lib.hid (HB5.out.grown hg6 HB5.out.size (lr_base HR5.out)); obtain ⟨A6, c6, rfl⟩ := hr6.slice; clear hr6 hg6)
          go_roundw
          case rel => exact ⟨T, i + 1, f, acc ++ [l], A6, c6, rfl, by rw [List.length_append]; rfl, by go_num, HR6, hP2, Lib.hid hf1, Lib.hid hci1, Lib.hid (by rw [List.length_append]; exact Nat.succ_le_succ hai.out), HB6⟩
          case measure => exact hTc

end Go.Proofs.YtlhgfhmdhmgmpaaGreatDoor
