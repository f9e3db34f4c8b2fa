/- list's law ListLines: walked. -/
import Derived.Test.YtlhgfhmdhmgmpaaDoorLiZ3
import Derived.Test.YtlhgfhmdhmgmpaaDoorLpI
import Derived.Test.YtlhgfhmdhmgmpaaDoorAl
import Derived.Laws.AppendOwnNone
set_option linter.unusedVariables false
set_option linter.unusedSimpArgs false
namespace Go.Proofs.YtlhgfhmdhmgmpaaDoor
open Go.RowKit Go.Proofs.YtlhgfhmdhmgmpaaDoorW.PrintWords Go.Joins Go.Maps

theorem z_own {w : World} {B e n : Nat} {v : Value} {xs : List Value} {ls : List Line} (o : w.ownsRow B e 7 v n xs) (h : Reps (kLine.K w) 7 ls xs) (hn : ls.length = n) : ∃ A c, v = .slice A ls.length c ∧ Lines w (.slice A ls.length c) ls := by
  have hl := Lines.own o h hn
  subst hn
  rcases o.2 with ⟨rfl, h0⟩ | ⟨g, cap, cur, rfl, _, _, h1, _⟩
  · exact ⟨none, 0, by rw [h0], by rw [h0]; exact hl⟩
  · exact ⟨_, cap, rfl, hl⟩

theorem z_ge {w : World} {B e s n : Nat} {v : Value} {xs : List Value} (o : w.ownsRow B e s v n xs) (k : Nat) (hk : v.ownBlock = some k) : B ≤ k := by
  rcases o.2 with ⟨rfl, _⟩ | ⟨g, cap, cur, rfl, hb, _⟩
  · simp [Value.ownBlock] at hk
  · simp [Value.ownBlock] at hk
    omega

/-- Two lists put together: behind both appends. -/
theorem z_two {w3 w4 w5 : World} {v4 v5 : Value} {n4 n5 : Nat} {xs ys : List Value} {l1 l2 : List Line} (ho4 : w4.ownsRow w3.heap.size 38 7 v4 n4 xs) (hg4 : w3.grownBy w4 none) (hg5 : w4.grownBy w5 v4.ownBlock) (ho5 : w5.ownsRow w3.heap.size 38 7 v5 n5 (xs ++ ys))
    (r1 : Reps (kLine.K w3) 7 l1 xs) (r2 : Reps (kLine.K w3) 7 l2 ys) {L : List Line} (hL : l1 ++ l2 = L) (hn : (l1 ++ l2).length = n5) : ∃ A c, v5 = .slice A L.length c ∧ Lines w5 (.slice A L.length c) L ∧ Below w3.heap.size w3 w5 := by
  subst hL
  have hb4 : Below w3.heap.size w3 w4 := (Below.refl _ w3).grown hg4 (Nat.le_refl _) (fun b hb => by cases hb)
  have hb5 : Below w3.heap.size w3 w5 := hb4.grown hg5 hb4.size (fun b hb => z_ge ho4 b hb)
  obtain ⟨A, c, rfl, h1⟩ := z_own ho5 (al_below (al_append r1 r2) hb5) hn
  exact ⟨A, c, rfl, h1, hb5⟩

/-- A slice of lines: nothing, or a row somewhere. -/
def NoneOr (A : Option Addr) (c : Nat) (ls : List Line) : Prop := (A = none ∧ c = 0 ∧ ls = []) ∨ ∃ ad, A = some ad

theorem z_slice {w : World} {B : Nat} {v : Value} {ls : List Line} (h : LR w B v ls) : ∃ A c, v = .slice A ls.length c ∧ NoneOr A c ls := by
  obtain ⟨xs, h1, _⟩ := h
  rcases h1.2 with ⟨rfl, h0⟩ | ⟨g, cap, cur, rfl, _⟩
  · exact ⟨none, 0, by rw [h0], .inl ⟨rfl, rfl, List.length_eq_zero_iff.1 h0⟩⟩
  · exact ⟨_, _, rfl, .inr ⟨_, rfl⟩⟩

/-- append of nothing. -/
theorem al_none {P : Program} {w : World} {ops : Array Oper} {rest : List Oper} {o : Oper} {a : Act} {Q : Exit → Act → World → Prop} (t e : TypeId) (ht : P.underlying t = some (.slice e)) (hi : (P.info? e).isSome = true) (hgd : o.guard = none) (s x : Operand)
    (ho : o.op = .call { callee := .builtin .append, args := #[s, x], argTypes := #[t, t] })
    (B : Nat) (v : Value) (n : Nat) (xs : List Value) (hs : a.eval s = v) (hown : w.ownsRow B e 7 v n xs) (hx : a.eval x = .slice none 0 0)
    (h : wpList P ops Q rest (a.put o.dst v) w) : wpList P ops Q (o :: rest) a w := by
  obtain ⟨i, hi⟩ := Option.isSome_iff_exists.1 hi
  exact wpList_append_own_none hgd s x t ho B e i 7 ht hi v n xs hs hown hx h


theorem baL_cat (a b : List UInt8) : baL a ++ baL b = baL (a ++ b) := ba_cat a b

set_option maxRecDepth 100000 in
set_option maxHeartbeats 16000000 in
theorem lines_any (S T : List UInt8) (w : World) (hL : LLaid w) (hs : S.length ≤ 2000000) (ht : T.length ≤ 2000000) :
    Calls Tryd.prog 6 #[.string (baL S), .string (baL T)] w fun e w' => e = .returned (.bool true) ∧ Below w.heap.size w w' := by
  have HL := Lib.hid hL
  clear hL
  have HTZ := Lib.hid (show T.length ≤ 2000001 by omega)
  have HGb := parse_good (baL T).size (baL T) 0 [] (by simp)
  rw [show parseF (baL T).size (baL T) 0 [] = parseR (baL T) from rfl] at HGb
  replace HGb := Lib.hid HGb
  by_cases h0 : S = []
  · subst h0
    have HEN : EndsNl [] := .inl rfl
    have HSZ := Lib.hid (show ([] : List UInt8).length ≤ 2000001 by decide)
    have HGa := parse_good (baL []).size (baL []) 0 [] (by simp)
    rw [show parseF (baL []).size (baL []) 0 [] = parseR (baL []) from rfl] at HGa
    replace HGa := Lib.hid HGa
    rw [show baL [] = ⟨#[]⟩ from rfl]
    have hcat : (9223372036854775807 < (baL T).size) = False := eq_false (by rw [baL_size]; omega)
    go_enter Tryd.func6, Tryd.ntmps6
    go_wp2_with fail
    have P := parse_any (baL []) w HL.out (by rw [baL_size]; have := HSZ.out; omega)
    obtain ⟨la, na, ea, hRa⟩ : ∃ ls n er, parseR (baL []) = (ls, n, er) := ⟨_, _, _, rfl⟩
    rw [hRa] at P HGa
    have HLW := Lib.hid (lines_law [] T HEN)
    rw [hRa] at HLW
    refine P.mono ?_
    rintro e w1 ⟨va, rfl, hLRa, hb1⟩
    obtain ⟨Aa, ca, rfl, hna⟩ := z_slice hLRa
    have HNa := Lib.hid hna
    clear hna
    have HLa := Lib.hid hLRa.lines
    have HL1 := Lib.hid (HL.out.below hb1)
    have HW1 := Lib.hid hb1
    clear P hLRa hb1 hRa
    go_wp2_with fail
    have P := parse_any (baL T) w1 HL1.out (by rw [baL_size]; have := HTZ.out; omega)
    obtain ⟨lb, nb, eb, hRb⟩ : ∃ ls n er, parseR (baL T) = (ls, n, er) := ⟨_, _, _, rfl⟩
    rw [hRb] at P HGb HLW
    refine P.mono ?_
    rintro e w2 ⟨vb, rfl, hLRb, hb2⟩
    obtain ⟨Ab, cb, rfl, hnb⟩ := z_slice hLRb
    have HNb := Lib.hid hnb
    clear hnb
    have HLb := Lib.hid hLRb.lines
    have HLa2 := Lib.hid (HLa.out.below hb2)
    have HL2 := Lib.hid (HL1.out.below hb2)
    have HW2 := Lib.hid (bj HW1.out hb2)
    clear P hLRb hb2 hRb
    go_wp2_with fail
    rw [show (⟨#[]⟩ : ByteArray) ++ baL T = baL ([] ++ T) from baL_cat [] T]
    have P := parse_any (baL ([] ++ T)) w2 HL2.out (by rw [baL_size, List.length_append]; have := HSZ.out; have := HTZ.out; omega)
    obtain ⟨lc, nc, ec, hRc⟩ : ∃ ls n er, parseR (baL ([] ++ T)) = (ls, n, er) := ⟨_, _, _, rfl⟩
    rw [hRc] at P HLW
    refine P.mono ?_
    rintro e w3 ⟨vc, rfl, hLRc, hb3⟩
    obtain ⟨Ac, cc, rfl⟩ := hLRc.slice
    have HLc := Lib.hid hLRc.lines
    have HLa3 := Lib.hid (HLa2.out.below hb3)
    have HLb3 := Lib.hid (HLb.out.below hb3)
    have HL3 := Lib.hid (HL2.out.below hb3)
    have HW3 := Lib.hid (bj HW2.out hb3)
    clear P hLRc hb3 hRc
    have LIV := Lib.hid (live_any w3 HL3.out)
    clear hs ht
    by_cases ha : ea = 0
    · subst ha
      obtain ⟨hna, hla, hga⟩ : na = 0 ∧ la.length ≤ 60000 ∧ ∀ l ∈ la, l.list.length ≤ 400 := by
        rcases HGa.out with ⟨_, h2, h3, h4⟩ | ⟨h, _⟩
        · exact ⟨h2, h3, fun l hl => may_short (h4 l hl).2⟩
        · exact absurd rfl h
      subst hna
      have hlb : lb.length ≤ 60000 := by
        rcases HGb.out with ⟨_, _, h3, _⟩ | ⟨_, h, _⟩
        · exact h3
        · rw [h]; decide
      have hgb : ∀ l ∈ lb, l.list.length ≤ 400 := by
        rcases HGb.out with ⟨_, _, _, h4⟩ | ⟨_, h, _⟩
        · exact fun l hl => may_short (h4 l hl).2
        · rw [h]; exact fun l hl => by cases hl
      have HGA := Lib.hid hga
      have HGB := Lib.hid hgb
      have LW := Lib.hid (HLW.out rfl)
      clear HGa hga hgb HLW
      by_cases hsum : la.length + lb.length ≤ 60000
      · have LW := Lib.hid (LW.out hsum)
        have hd : decide ((60000 : Int) < (la.length : Int) + (lb.length : Int)) = false := decide_eq_false (by omega)
        by_cases hf : eb = 0
        · subst hf
          have h3 : (lc, nc, ec) = (la ++ lb, 0, 0) := LW.out.2 rfl
          simp only [Prod.mk.injEq] at h3
          obtain ⟨hlc, rfl, rfl⟩ := h3
          clear LW HGb
          have hlcn : lc.length ≤ 60000 := by rw [hlc, List.length_append]; exact hsum
          have hsame : ∀ (A : Option Addr) (c : Nat) (W : World), Lines W (.slice A lc.length c) lc → Lines W (.slice Ac lc.length cc) lc → Calls Tryd.prog 11 #[.slice Ac lc.length cc, .slice A lc.length c] W fun e W' => e = .returned (.bool true) ∧ Below W.heap.size W W' := fun A c W h1 h2 =>
            same_lines lc Ac A cc c W h2 h1 (by omega) (fun l hl => by
              rw [hlc] at hl
              rcases List.mem_append.1 hl with hl | hl
              · have := HGA.out l hl; omega
              · have := HGB.out l hl; omega)
          have HLCE := Lib.hid hlc.symm
          clear hlc
          have SAME := Lib.hid hsame
          clear hsame
          rcases HNa.out with ⟨rfl, rfl, rfl⟩ | ⟨ad, rfl⟩
          · rcases HNb.out with ⟨rfl, rfl, rfl⟩ | ⟨ad, rfl⟩
            · obtain rfl : lc = [] := by simpa using HLCE.out.symm
              have SB := Lib.hid (Below.refl w3.heap.size w3)
              have SN := Lib.hid (LR.nil w3 0).lines
              go_wp2_with (first | (at_builtin; refine al_none 22 38 Tryd.underlying22 (by kernel_rfl) rfl (.tmp 71) (.tmp 72) rfl w3.heap.size (.slice none 0 0) 0 _ rfl (own_nil _ _ _ _) rfl ?_) | (at_builtin; refine al_none 22 38 Tryd.underlying22 (by kernel_rfl) rfl (.tmp 74) (.tmp 75) rfl w3.heap.size (.slice none 0 0) 0 _ rfl (own_nil _ _ _ _) rfl ?_))
              have HL5 := Lib.hid (HL3.out.below SB.out)
              have HLc5 := Lib.hid (HLc.out.below SB.out)
              refine (live_any _ HL5.out).mono ?_
              rintro e w6 ⟨rfl, hb6⟩
              have HLc6 := Lib.hid (HLc5.out.below hb6)
              have HN6 := Lib.hid (SN.out.below hb6)
              have HW6 := Lib.hid (bj (bj HW3.out SB.out) hb6)
              clear hb6
              go_wp2_with fail
              refine (SAME.out _ _ _ HN6.out HLc6.out).mono ?_
              rintro e w7 ⟨rfl, hb7⟩
              have HW7 := Lib.hid (bj HW6.out hb7)
              clear hb7
              go_wp2_with fail
              go_ret
              exact ⟨rfl, HW7.out⟩
            · obtain rfl : lc = lb := by simpa using HLCE.out.symm
              obtain ⟨xs, f1, f2⟩ := HLb3.out.flat
              have F1 := Lib.hid f1
              have F2 := Lib.hid f2
              clear f1 f2
              go_wp2_with (first | (at_builtin; refine al_none 22 38 Tryd.underlying22 (by kernel_rfl) rfl (.tmp 71) (.tmp 72) rfl w3.heap.size (.slice none 0 0) 0 _ rfl (own_nil _ _ _ _) rfl ?_) | (at_builtin; refine al_list 22 38 (.agg #[.int .i64 0, .int .i64 0, .int .i64 0, .int .i64 0, .int .u32 0, .int .i64 0, .slice none 0 0]) 72 Tryd.underlying22 (by kernel_rfl) (by decide) (by rfl) rfl (.tmp 74) (.tmp 75) rfl w3.heap.size (.slice none 0 0) 0 [] rfl (own_nil _ _ _ _) ad lc.length _ lc xs rfl rfl F1.out F2.out (by omega) (Nat.le_refl _) ?_; intro v5 w5 ho5 hg5 hat5; have hb5 := (Below.refl _ w3).grown hg5 (Nat.le_refl _) (fun b hb => by cases hb); obtain ⟨A5, c5, rfl, hS5⟩ := z_own ho5 (al_below F1.out hb5) (by omega); have SN := Lib.hid hS5; have SB := Lib.hid hb5; clear ho5 hg5 hat5 hS5 hb5))
              have HL5 := Lib.hid (HL3.out.below SB.out)
              have HLc5 := Lib.hid (HLc.out.below SB.out)
              refine (live_any _ HL5.out).mono ?_
              rintro e w6 ⟨rfl, hb6⟩
              have HLc6 := Lib.hid (HLc5.out.below hb6)
              have HN6 := Lib.hid (SN.out.below hb6)
              have HW6 := Lib.hid (bj (bj HW3.out SB.out) hb6)
              clear hb6
              go_wp2_with fail
              refine (SAME.out _ _ _ HN6.out HLc6.out).mono ?_
              rintro e w7 ⟨rfl, hb7⟩
              have HW7 := Lib.hid (bj HW6.out hb7)
              clear hb7
              go_wp2_with fail
              go_ret
              exact ⟨rfl, HW7.out⟩
          · obtain ⟨xs, f1, f2⟩ := HLa3.out.flat
            have F1 := Lib.hid f1
            have F2 := Lib.hid f2
            clear f1 f2
            rcases HNb.out with ⟨rfl, rfl, rfl⟩ | ⟨ad6, rfl⟩
            · obtain rfl : lc = la := by simpa using HLCE.out.symm
              go_wp2_with (first | (at_builtin; refine al_list 22 38 (.agg #[.int .i64 0, .int .i64 0, .int .i64 0, .int .i64 0, .int .u32 0, .int .i64 0, .slice none 0 0]) 72 Tryd.underlying22 (by kernel_rfl) (by decide) (by rfl) rfl (.tmp 71) (.tmp 72) rfl w3.heap.size (.slice none 0 0) 0 [] rfl (own_nil _ _ _ _) ad lc.length _ lc xs rfl rfl F1.out F2.out (by omega) (Nat.le_refl _) ?_; intro v4 w4 ho4 hg4 hat4; have HO4 := Lib.hid ho4; have HG4 := Lib.hid (show w3.grownBy w4 none from hg4); have HB4 := Lib.hid ((Below.refl _ w3).grown hg4 (Nat.le_refl _) (fun b hb => by cases hb)); clear ho4 hg4 hat4) | (at_builtin; refine al_none 22 38 Tryd.underlying22 (by kernel_rfl) rfl (.tmp 74) (.tmp 75) rfl w3.heap.size v4 (0 + lc.length) _ rfl HO4.out rfl ?_; obtain ⟨A5, c5, rfl, hS5⟩ := z_own HO4.out (al_below F1.out HB4.out) (by omega); have SN := Lib.hid hS5; have SB := HB4; clear hS5))
              have HL5 := Lib.hid (HL3.out.below SB.out)
              have HLc5 := Lib.hid (HLc.out.below SB.out)
              refine (live_any _ HL5.out).mono ?_
              rintro e w6 ⟨rfl, hb6⟩
              have HLc6 := Lib.hid (HLc5.out.below hb6)
              have HN6 := Lib.hid (SN.out.below hb6)
              have HW6 := Lib.hid (bj (bj HW3.out SB.out) hb6)
              clear hb6
              go_wp2_with fail
              refine (SAME.out _ _ _ HN6.out HLc6.out).mono ?_
              rintro e w7 ⟨rfl, hb7⟩
              have HW7 := Lib.hid (bj HW6.out hb7)
              clear hb7
              go_wp2_with fail
              go_ret
              exact ⟨rfl, HW7.out⟩
            · obtain ⟨ys, f1, f2⟩ := HLb3.out.flat
              have G1 := Lib.hid f1
              have G2 := Lib.hid f2
              clear f1 f2
              go_wp2_with (first | (at_builtin; refine al_list 22 38 (.agg #[.int .i64 0, .int .i64 0, .int .i64 0, .int .i64 0, .int .u32 0, .int .i64 0, .slice none 0 0]) 72 Tryd.underlying22 (by kernel_rfl) (by decide) (by rfl) rfl (.tmp 71) (.tmp 72) rfl w3.heap.size (.slice none 0 0) 0 [] rfl (own_nil _ _ _ _) ad la.length _ la xs rfl rfl F1.out F2.out (by omega) (Nat.le_refl _) ?_; intro v4 w4 ho4 hg4 hat4; have HO4 := Lib.hid ho4; have HG4 := Lib.hid (show w3.grownBy w4 none from hg4); have HB4 := Lib.hid ((Below.refl _ w3).grown hg4 (Nat.le_refl _) (fun b hb => by cases hb)); clear ho4 hg4 hat4) | (at_builtin; refine al_list 22 38 (.agg #[.int .i64 0, .int .i64 0, .int .i64 0, .int .i64 0, .int .u32 0, .int .i64 0, .slice none 0 0]) 72 Tryd.underlying22 (by kernel_rfl) (by decide) (by rfl) rfl (.tmp 74) (.tmp 75) rfl w3.heap.size v4 (0 + la.length) _ rfl HO4.out ad6 lb.length _ lb ys rfl rfl (al_below G1.out HB4.out) (fun j u hu => pw_cell_below HB4.out (G2.out j u hu)) (by omega) HB4.out.size ?_; intro v5 w5 ho5 hg5 hat5; obtain ⟨A5, c5, rfl, hS5, hb5⟩ := z_two HO4.out HG4.out hg5 ho5 F1.out G1.out HLCE.out (by rw [List.length_append]; omega); have SN := Lib.hid hS5; have SB := Lib.hid hb5; clear ho5 hg5 hat5 hS5 hb5))
              have HL5 := Lib.hid (HL3.out.below SB.out)
              have HLc5 := Lib.hid (HLc.out.below SB.out)
              refine (live_any _ HL5.out).mono ?_
              rintro e w6 ⟨rfl, hb6⟩
              have HLc6 := Lib.hid (HLc5.out.below hb6)
              have HN6 := Lib.hid (SN.out.below hb6)
              have HW6 := Lib.hid (bj (bj HW3.out SB.out) hb6)
              clear hb6
              go_wp2_with fail
              refine (SAME.out _ _ _ HN6.out HLc6.out).mono ?_
              rintro e w7 ⟨rfl, hb7⟩
              have HW7 := Lib.hid (bj HW6.out hb7)
              clear hb7
              go_wp2_with fail
              go_ret
              exact ⟨rfl, HW7.out⟩
        · have h3 : ec = eb ∧ nb ≤ nc := LW.out.1 hf
          have hb0 : (eb == 0) = false := beq_eq_false_iff_ne.mpr hf
          obtain ⟨h5, h4⟩ := h3
          subst h5
          have hd4 : decide (nb ≤ nc) = true := decide_eq_true h4
          go_wp2_with fail
          refine LIV.out.mono ?_
          rintro e w5 ⟨rfl, hb5⟩
          have HW5 := Lib.hid (bj HW3.out hb5)
          clear hb5
          go_wp2_with fail
          go_ret
          exact ⟨rfl, HW5.out⟩
      · have hd : decide ((60000 : Int) < (la.length : Int) + (lb.length : Int)) = true := decide_eq_true (by omega)
        go_wp2_with fail
        refine LIV.out.mono ?_
        rintro e w5 ⟨rfl, hb5⟩
        have HW5 := Lib.hid (bj HW3.out hb5)
        clear hb5
        go_wp2_with fail
        go_ret
        exact ⟨rfl, HW5.out⟩
    · have hb0 : (ea == 0) = false := beq_eq_false_iff_ne.mpr ha
      go_wp2_with fail
      refine LIV.out.mono ?_
      rintro e w5 ⟨rfl, hb5⟩
      have HW5 := Lib.hid (bj HW3.out hb5)
      clear hb5
      go_wp2_with fail
      go_ret
      exact ⟨rfl, HW5.out⟩
  · obtain ⟨y, x, rfl⟩ : ∃ y x, S = y ++ [x] := by
      rcases List.eq_nil_or_concat S with h | ⟨y, x, h⟩
      · exact absurd h h0
      · exact ⟨y, x, by rw [h, List.concat_eq_append]⟩
    have hsz : (baL (y ++ [x])).size = (y ++ [x]).length := baL_size _
    have hln : (y ++ [x]).length = y.length + 1 := by simp
    have hlast : ∀ h : (baL (y ++ [x])).size - 1 < (baL (y ++ [x])).size, (((baL (y ++ [x]))[(baL (y ++ [x])).size - 1]'h).toNat : Int) = (x.toNat : Int) := by
      have e : (baL (y ++ [x])).size - 1 = y.length := by omega
      rw [e]
      intro h
      have : (baL (y ++ [x]))[y.length]'h = (y ++ [x])[y.length]'(by simp) := rfl
      rw [this]
      simp
    obtain ⟨S, hS⟩ : ∃ S, y ++ [x] = S := ⟨_, rfl⟩
    rw [hS] at hsz hln hlast hs ⊢
    have hne : (baL S).toList.isEmpty = false := by
      rw [ByteArray.toList_eq, baL_list, ← hS]
      simp
    have hne2 : (!(baL S).toList.isEmpty) = true := by rw [hne]; rfl
    have hne3 : ((baL S).toList == []) = false := by cases h : (baL S).toList with
      | nil => rw [h] at hne; cases hne
      | cons a b => rfl
    have hne4 : ((baL S).toList != []) = true := by rw [bne, hne3]; rfl
    have hq0 : (0 : Int) ≤ ((baL S).size : Int) - 1 := by omega
    have hq1 : ((baL S).size : Int) - 1 < ((baL S).size : Int) := by omega
    have hS0 : S.length ≤ 2000000 := hs
    have hq2 : (baL S).size ≤ 2000000 := by omega
    have hZ := Lib.hid hsz
    clear hsz hln h0
    by_cases hx : x = 10
    · subst hx
      have HEN : EndsNl S := .inr ⟨y, hS.symm⟩
      have HSZ := Lib.hid (show S.length ≤ 2000001 by omega)
      have HGa := parse_good (baL S).size (baL S) 0 [] (by simp)
      rw [show parseF (baL S).size (baL S) 0 [] = parseR (baL S) from rfl] at HGa
      replace HGa := Lib.hid HGa
      have hl10 : ∀ h : (baL S).size - 1 < (baL S).size, (((baL S)[(baL S).size - 1]'h).toNat : Int) = 10 := hlast
      have hcat : (9223372036854775807 < (baL S).size + (baL T).size) = False := eq_false (by rw [baL_size, baL_size]; omega)
      have HS := Lib.hid hS
      clear hS hlast hS0
      go_enter Tryd.func6, Tryd.ntmps6
      go_wp2_with fail
      have P := parse_any (baL S) w HL.out (by rw [baL_size]; have := HSZ.out; omega)
      obtain ⟨la, na, ea, hRa⟩ : ∃ ls n er, parseR (baL S) = (ls, n, er) := ⟨_, _, _, rfl⟩
      rw [hRa] at P HGa
      have HLW := Lib.hid (lines_law S T HEN)
      rw [hRa] at HLW
      refine P.mono ?_
      rintro e w1 ⟨va, rfl, hLRa, hb1⟩
      obtain ⟨Aa, ca, rfl, hna⟩ := z_slice hLRa
      have HNa := Lib.hid hna
      clear hna
      have HLa := Lib.hid hLRa.lines
      have HL1 := Lib.hid (HL.out.below hb1)
      have HW1 := Lib.hid hb1
      clear P hLRa hb1 hRa
      go_wp2_with fail
      have P := parse_any (baL T) w1 HL1.out (by rw [baL_size]; have := HTZ.out; omega)
      obtain ⟨lb, nb, eb, hRb⟩ : ∃ ls n er, parseR (baL T) = (ls, n, er) := ⟨_, _, _, rfl⟩
      rw [hRb] at P HGb HLW
      refine P.mono ?_
      rintro e w2 ⟨vb, rfl, hLRb, hb2⟩
      obtain ⟨Ab, cb, rfl, hnb⟩ := z_slice hLRb
      have HNb := Lib.hid hnb
      clear hnb
      have HLb := Lib.hid hLRb.lines
      have HLa2 := Lib.hid (HLa.out.below hb2)
      have HL2 := Lib.hid (HL1.out.below hb2)
      have HW2 := Lib.hid (bj HW1.out hb2)
      clear P hLRb hb2 hRb
      go_wp2_with fail
      rw [baL_cat]
      have P := parse_any (baL (S ++ T)) w2 HL2.out (by rw [baL_size, List.length_append]; have := HSZ.out; have := HTZ.out; omega)
      obtain ⟨lc, nc, ec, hRc⟩ : ∃ ls n er, parseR (baL (S ++ T)) = (ls, n, er) := ⟨_, _, _, rfl⟩
      rw [hRc] at P HLW
      refine P.mono ?_
      rintro e w3 ⟨vc, rfl, hLRc, hb3⟩
      obtain ⟨Ac, cc, rfl⟩ := hLRc.slice
      have HLc := Lib.hid hLRc.lines
      have HLa3 := Lib.hid (HLa2.out.below hb3)
      have HLb3 := Lib.hid (HLb.out.below hb3)
      have HL3 := Lib.hid (HL2.out.below hb3)
      have HW3 := Lib.hid (bj HW2.out hb3)
      clear P hLRc hb3 hRc
      have LIV := Lib.hid (live_any w3 HL3.out)
      clear hs ht
      by_cases ha : ea = 0
      · subst ha
        obtain ⟨hna, hla, hga⟩ : na = 0 ∧ la.length ≤ 60000 ∧ ∀ l ∈ la, l.list.length ≤ 400 := by
          rcases HGa.out with ⟨_, h2, h3, h4⟩ | ⟨h, _⟩
          · exact ⟨h2, h3, fun l hl => may_short (h4 l hl).2⟩
          · exact absurd rfl h
        subst hna
        have hlb : lb.length ≤ 60000 := by
          rcases HGb.out with ⟨_, _, h3, _⟩ | ⟨_, h, _⟩
          · exact h3
          · rw [h]; decide
        have hgb : ∀ l ∈ lb, l.list.length ≤ 400 := by
          rcases HGb.out with ⟨_, _, _, h4⟩ | ⟨_, h, _⟩
          · exact fun l hl => may_short (h4 l hl).2
          · rw [h]; exact fun l hl => by cases hl
        have HGA := Lib.hid hga
        have HGB := Lib.hid hgb
        have LW := Lib.hid (HLW.out rfl)
        clear HGa hga hgb HLW
        by_cases hsum : la.length + lb.length ≤ 60000
        · have LW := Lib.hid (LW.out hsum)
          have hd : decide ((60000 : Int) < (la.length : Int) + (lb.length : Int)) = false := decide_eq_false (by omega)
          by_cases hf : eb = 0
          · subst hf
            have h3 : (lc, nc, ec) = (la ++ lb, 0, 0) := LW.out.2 rfl
            simp only [Prod.mk.injEq] at h3
            obtain ⟨hlc, rfl, rfl⟩ := h3
            clear LW HGb
            have hlcn : lc.length ≤ 60000 := by rw [hlc, List.length_append]; exact hsum
            have hsame : ∀ (A : Option Addr) (c : Nat) (W : World), Lines W (.slice A lc.length c) lc → Lines W (.slice Ac lc.length cc) lc → Calls Tryd.prog 11 #[.slice Ac lc.length cc, .slice A lc.length c] W fun e W' => e = .returned (.bool true) ∧ Below W.heap.size W W' := fun A c W h1 h2 =>
              same_lines lc Ac A cc c W h2 h1 (by omega) (fun l hl => by
                rw [hlc] at hl
                rcases List.mem_append.1 hl with hl | hl
                · have := HGA.out l hl; omega
                · have := HGB.out l hl; omega)
            have HLCE := Lib.hid hlc.symm
            clear hlc
            have SAME := Lib.hid hsame
            clear hsame
            rcases HNa.out with ⟨rfl, rfl, rfl⟩ | ⟨ad, rfl⟩
            · rcases HNb.out with ⟨rfl, rfl, rfl⟩ | ⟨ad, rfl⟩
              · obtain rfl : lc = [] := by simpa using HLCE.out.symm
                have SB := Lib.hid (Below.refl w3.heap.size w3)
                have SN := Lib.hid (LR.nil w3 0).lines
                go_wp2_with (first | (at_builtin; refine al_none 22 38 Tryd.underlying22 (by kernel_rfl) rfl (.tmp 71) (.tmp 72) rfl w3.heap.size (.slice none 0 0) 0 _ rfl (own_nil _ _ _ _) rfl ?_) | (at_builtin; refine al_none 22 38 Tryd.underlying22 (by kernel_rfl) rfl (.tmp 74) (.tmp 75) rfl w3.heap.size (.slice none 0 0) 0 _ rfl (own_nil _ _ _ _) rfl ?_))
                have HL5 := Lib.hid (HL3.out.below SB.out)
                have HLc5 := Lib.hid (HLc.out.below SB.out)
                refine (live_any _ HL5.out).mono ?_
                rintro e w6 ⟨rfl, hb6⟩
                have HLc6 := Lib.hid (HLc5.out.below hb6)
                have HN6 := Lib.hid (SN.out.below hb6)
                have HW6 := Lib.hid (bj (bj HW3.out SB.out) hb6)
                clear hb6
                go_wp2_with fail
                refine (SAME.out _ _ _ HN6.out HLc6.out).mono ?_
                rintro e w7 ⟨rfl, hb7⟩
                have HW7 := Lib.hid (bj HW6.out hb7)
                clear hb7
                go_wp2_with fail
                go_ret
                exact ⟨rfl, HW7.out⟩
              · obtain rfl : lc = lb := by simpa using HLCE.out.symm
                obtain ⟨xs, f1, f2⟩ := HLb3.out.flat
                have F1 := Lib.hid f1
                have F2 := Lib.hid f2
                clear f1 f2
                go_wp2_with (first | (at_builtin; refine al_none 22 38 Tryd.underlying22 (by kernel_rfl) rfl (.tmp 71) (.tmp 72) rfl w3.heap.size (.slice none 0 0) 0 _ rfl (own_nil _ _ _ _) rfl ?_) | (at_builtin; refine al_list 22 38 (.agg #[.int .i64 0, .int .i64 0, .int .i64 0, .int .i64 0, .int .u32 0, .int .i64 0, .slice none 0 0]) 72 Tryd.underlying22 (by kernel_rfl) (by decide) (by rfl) rfl (.tmp 74) (.tmp 75) rfl w3.heap.size (.slice none 0 0) 0 [] rfl (own_nil _ _ _ _) ad lc.length _ lc xs rfl rfl F1.out F2.out (by omega) (Nat.le_refl _) ?_; intro v5 w5 ho5 hg5 hat5; have hb5 := (Below.refl _ w3).grown hg5 (Nat.le_refl _) (fun b hb => by cases hb); obtain ⟨A5, c5, rfl, hS5⟩ := z_own ho5 (al_below F1.out hb5) (by omega); have SN := Lib.hid hS5; have SB := Lib.hid hb5; clear ho5 hg5 hat5 hS5 hb5))
                have HL5 := Lib.hid (HL3.out.below SB.out)
                have HLc5 := Lib.hid (HLc.out.below SB.out)
                refine (live_any _ HL5.out).mono ?_
                rintro e w6 ⟨rfl, hb6⟩
                have HLc6 := Lib.hid (HLc5.out.below hb6)
                have HN6 := Lib.hid (SN.out.below hb6)
                have HW6 := Lib.hid (bj (bj HW3.out SB.out) hb6)
                clear hb6
                go_wp2_with fail
                refine (SAME.out _ _ _ HN6.out HLc6.out).mono ?_
                rintro e w7 ⟨rfl, hb7⟩
                have HW7 := Lib.hid (bj HW6.out hb7)
                clear hb7
                go_wp2_with fail
                go_ret
                exact ⟨rfl, HW7.out⟩
            · obtain ⟨xs, f1, f2⟩ := HLa3.out.flat
              have F1 := Lib.hid f1
              have F2 := Lib.hid f2
              clear f1 f2
              rcases HNb.out with ⟨rfl, rfl, rfl⟩ | ⟨ad6, rfl⟩
              · obtain rfl : lc = la := by simpa using HLCE.out.symm
                go_wp2_with (first | (at_builtin; refine al_list 22 38 (.agg #[.int .i64 0, .int .i64 0, .int .i64 0, .int .i64 0, .int .u32 0, .int .i64 0, .slice none 0 0]) 72 Tryd.underlying22 (by kernel_rfl) (by decide) (by rfl) rfl (.tmp 71) (.tmp 72) rfl w3.heap.size (.slice none 0 0) 0 [] rfl (own_nil _ _ _ _) ad lc.length _ lc xs rfl rfl F1.out F2.out (by omega) (Nat.le_refl _) ?_; intro v4 w4 ho4 hg4 hat4; have HO4 := Lib.hid ho4; have HG4 := Lib.hid (show w3.grownBy w4 none from hg4); have HB4 := Lib.hid ((Below.refl _ w3).grown hg4 (Nat.le_refl _) (fun b hb => by cases hb)); clear ho4 hg4 hat4) | (at_builtin; refine al_none 22 38 Tryd.underlying22 (by kernel_rfl) rfl (.tmp 74) (.tmp 75) rfl w3.heap.size v4 (0 + lc.length) _ rfl HO4.out rfl ?_; obtain ⟨A5, c5, rfl, hS5⟩ := z_own HO4.out (al_below F1.out HB4.out) (by omega); have SN := Lib.hid hS5; have SB := HB4; clear hS5))
                have HL5 := Lib.hid (HL3.out.below SB.out)
                have HLc5 := Lib.hid (HLc.out.below SB.out)
                refine (live_any _ HL5.out).mono ?_
                rintro e w6 ⟨rfl, hb6⟩
                have HLc6 := Lib.hid (HLc5.out.below hb6)
                have HN6 := Lib.hid (SN.out.below hb6)
                have HW6 := Lib.hid (bj (bj HW3.out SB.out) hb6)
                clear hb6
                go_wp2_with fail
                refine (SAME.out _ _ _ HN6.out HLc6.out).mono ?_
                rintro e w7 ⟨rfl, hb7⟩
                have HW7 := Lib.hid (bj HW6.out hb7)
                clear hb7
                go_wp2_with fail
                go_ret
                exact ⟨rfl, HW7.out⟩
              · obtain ⟨ys, f1, f2⟩ := HLb3.out.flat
                have G1 := Lib.hid f1
                have G2 := Lib.hid f2
                clear f1 f2
                go_wp2_with (first | (at_builtin; refine al_list 22 38 (.agg #[.int .i64 0, .int .i64 0, .int .i64 0, .int .i64 0, .int .u32 0, .int .i64 0, .slice none 0 0]) 72 Tryd.underlying22 (by kernel_rfl) (by decide) (by rfl) rfl (.tmp 71) (.tmp 72) rfl w3.heap.size (.slice none 0 0) 0 [] rfl (own_nil _ _ _ _) ad la.length _ la xs rfl rfl F1.out F2.out (by omega) (Nat.le_refl _) ?_; intro v4 w4 ho4 hg4 hat4; have HO4 := Lib.hid ho4; have HG4 := Lib.hid (show w3.grownBy w4 none from hg4); have HB4 := Lib.hid ((Below.refl _ w3).grown hg4 (Nat.le_refl _) (fun b hb => by cases hb)); clear ho4 hg4 hat4) | (at_builtin; refine al_list 22 38 (.agg #[.int .i64 0, .int .i64 0, .int .i64 0, .int .i64 0, .int .u32 0, .int .i64 0, .slice none 0 0]) 72 Tryd.underlying22 (by kernel_rfl) (by decide) (by rfl) rfl (.tmp 74) (.tmp 75) rfl w3.heap.size v4 (0 + la.length) _ rfl HO4.out ad6 lb.length _ lb ys rfl rfl (al_below G1.out HB4.out) (fun j u hu => pw_cell_below HB4.out (G2.out j u hu)) (by omega) HB4.out.size ?_; intro v5 w5 ho5 hg5 hat5; obtain ⟨A5, c5, rfl, hS5, hb5⟩ := z_two HO4.out HG4.out hg5 ho5 F1.out G1.out HLCE.out (by rw [List.length_append]; omega); have SN := Lib.hid hS5; have SB := Lib.hid hb5; clear ho5 hg5 hat5 hS5 hb5))
                have HL5 := Lib.hid (HL3.out.below SB.out)
                have HLc5 := Lib.hid (HLc.out.below SB.out)
                refine (live_any _ HL5.out).mono ?_
                rintro e w6 ⟨rfl, hb6⟩
                have HLc6 := Lib.hid (HLc5.out.below hb6)
                have HN6 := Lib.hid (SN.out.below hb6)
                have HW6 := Lib.hid (bj (bj HW3.out SB.out) hb6)
                clear hb6
                go_wp2_with fail
                refine (SAME.out _ _ _ HN6.out HLc6.out).mono ?_
                rintro e w7 ⟨rfl, hb7⟩
                have HW7 := Lib.hid (bj HW6.out hb7)
                clear hb7
                go_wp2_with fail
                go_ret
                exact ⟨rfl, HW7.out⟩
          · have h3 : ec = eb ∧ nb ≤ nc := LW.out.1 hf
            have hb0 : (eb == 0) = false := beq_eq_false_iff_ne.mpr hf
            obtain ⟨h5, h4⟩ := h3
            subst h5
            have hd4 : decide (nb ≤ nc) = true := decide_eq_true h4
            go_wp2_with fail
            refine LIV.out.mono ?_
            rintro e w5 ⟨rfl, hb5⟩
            have HW5 := Lib.hid (bj HW3.out hb5)
            clear hb5
            go_wp2_with fail
            go_ret
            exact ⟨rfl, HW5.out⟩
        · have hd : decide ((60000 : Int) < (la.length : Int) + (lb.length : Int)) = true := decide_eq_true (by omega)
          go_wp2_with fail
          refine LIV.out.mono ?_
          rintro e w5 ⟨rfl, hb5⟩
          have HW5 := Lib.hid (bj HW3.out hb5)
          clear hb5
          go_wp2_with fail
          go_ret
          exact ⟨rfl, HW5.out⟩
      · have hb0 : (ea == 0) = false := beq_eq_false_iff_ne.mpr ha
        go_wp2_with fail
        refine LIV.out.mono ?_
        rintro e w5 ⟨rfl, hb5⟩
        have HW5 := Lib.hid (bj HW3.out hb5)
        clear hb5
        go_wp2_with fail
        go_ret
        exact ⟨rfl, HW5.out⟩
    · have hl10 : ((x.toNat : Int) == 10) = false := beq_eq_false_iff_ne.mpr (fun e => hx (UInt8.toNat_inj.1 (by show x.toNat = 10; omega)))
      have hcat1 : (9223372036854775807 < (baL S).size + 1) = False := eq_false (by rw [baL_size]; omega)
      have HS := Lib.hid hS
      clear hS
      go_enter Tryd.func6, Tryd.ntmps6
      go_wp2_with fail
      rw [show baL S ++ ⟨#[10]⟩ = baL (S ++ [10]) from baL_cat S [10]]
      have HEN : EndsNl (S ++ [10]) := .inr ⟨S, rfl⟩
      have hs1 : (S ++ [10]).length ≤ 2000001 := by rw [List.length_append]; simp only [List.length_cons, List.length_nil]; omega
      obtain ⟨S1, hS1⟩ : ∃ S1, S ++ [10] = S1 := ⟨_, rfl⟩
      rw [hS1] at HEN hs1 ⊢
      have HSZ := Lib.hid (show S1.length ≤ 2000001 by omega)
      have HGa := parse_good (baL S1).size (baL S1) 0 [] (by simp)
      rw [show parseF (baL S1).size (baL S1) 0 [] = parseR (baL S1) from rfl] at HGa
      replace HGa := Lib.hid HGa
      have hcat : (9223372036854775807 < (baL S1).size + (baL T).size) = False := eq_false (by rw [baL_size, baL_size]; omega)
      clear hlast hl10 hcat1 hne hne2 hne3 hne4 hq0 hq1 hq2 hx hS0 hS1 hs1
      have P := parse_any (baL S1) w HL.out (by rw [baL_size]; have := HSZ.out; omega)
      obtain ⟨la, na, ea, hRa⟩ : ∃ ls n er, parseR (baL S1) = (ls, n, er) := ⟨_, _, _, rfl⟩
      rw [hRa] at P HGa
      have HLW := Lib.hid (lines_law S1 T HEN)
      rw [hRa] at HLW
      refine P.mono ?_
      rintro e w1 ⟨va, rfl, hLRa, hb1⟩
      obtain ⟨Aa, ca, rfl, hna⟩ := z_slice hLRa
      have HNa := Lib.hid hna
      clear hna
      have HLa := Lib.hid hLRa.lines
      have HL1 := Lib.hid (HL.out.below hb1)
      have HW1 := Lib.hid hb1
      clear P hLRa hb1 hRa
      go_wp2_with fail
      have P := parse_any (baL T) w1 HL1.out (by rw [baL_size]; have := HTZ.out; omega)
      obtain ⟨lb, nb, eb, hRb⟩ : ∃ ls n er, parseR (baL T) = (ls, n, er) := ⟨_, _, _, rfl⟩
      rw [hRb] at P HGb HLW
      refine P.mono ?_
      rintro e w2 ⟨vb, rfl, hLRb, hb2⟩
      obtain ⟨Ab, cb, rfl, hnb⟩ := z_slice hLRb
      have HNb := Lib.hid hnb
      clear hnb
      have HLb := Lib.hid hLRb.lines
      have HLa2 := Lib.hid (HLa.out.below hb2)
      have HL2 := Lib.hid (HL1.out.below hb2)
      have HW2 := Lib.hid (bj HW1.out hb2)
      clear P hLRb hb2 hRb
      go_wp2_with fail
      rw [baL_cat]
      have P := parse_any (baL (S1 ++ T)) w2 HL2.out (by rw [baL_size, List.length_append]; have := HSZ.out; have := HTZ.out; omega)
      obtain ⟨lc, nc, ec, hRc⟩ : ∃ ls n er, parseR (baL (S1 ++ T)) = (ls, n, er) := ⟨_, _, _, rfl⟩
      rw [hRc] at P HLW
      refine P.mono ?_
      rintro e w3 ⟨vc, rfl, hLRc, hb3⟩
      obtain ⟨Ac, cc, rfl⟩ := hLRc.slice
      have HLc := Lib.hid hLRc.lines
      have HLa3 := Lib.hid (HLa2.out.below hb3)
      have HLb3 := Lib.hid (HLb.out.below hb3)
      have HL3 := Lib.hid (HL2.out.below hb3)
      have HW3 := Lib.hid (bj HW2.out hb3)
      clear P hLRc hb3 hRc
      have LIV := Lib.hid (live_any w3 HL3.out)
      clear hs ht
      by_cases ha : ea = 0
      · subst ha
        obtain ⟨hna, hla, hga⟩ : na = 0 ∧ la.length ≤ 60000 ∧ ∀ l ∈ la, l.list.length ≤ 400 := by
          rcases HGa.out with ⟨_, h2, h3, h4⟩ | ⟨h, _⟩
          · exact ⟨h2, h3, fun l hl => may_short (h4 l hl).2⟩
          · exact absurd rfl h
        subst hna
        have hlb : lb.length ≤ 60000 := by
          rcases HGb.out with ⟨_, _, h3, _⟩ | ⟨_, h, _⟩
          · exact h3
          · rw [h]; decide
        have hgb : ∀ l ∈ lb, l.list.length ≤ 400 := by
          rcases HGb.out with ⟨_, _, _, h4⟩ | ⟨_, h, _⟩
          · exact fun l hl => may_short (h4 l hl).2
          · rw [h]; exact fun l hl => by cases hl
        have HGA := Lib.hid hga
        have HGB := Lib.hid hgb
        have LW := Lib.hid (HLW.out rfl)
        clear HGa hga hgb HLW
        by_cases hsum : la.length + lb.length ≤ 60000
        · have LW := Lib.hid (LW.out hsum)
          have hd : decide ((60000 : Int) < (la.length : Int) + (lb.length : Int)) = false := decide_eq_false (by omega)
          by_cases hf : eb = 0
          · subst hf
            have h3 : (lc, nc, ec) = (la ++ lb, 0, 0) := LW.out.2 rfl
            simp only [Prod.mk.injEq] at h3
            obtain ⟨hlc, rfl, rfl⟩ := h3
            clear LW HGb
            have hlcn : lc.length ≤ 60000 := by rw [hlc, List.length_append]; exact hsum
            have hsame : ∀ (A : Option Addr) (c : Nat) (W : World), Lines W (.slice A lc.length c) lc → Lines W (.slice Ac lc.length cc) lc → Calls Tryd.prog 11 #[.slice Ac lc.length cc, .slice A lc.length c] W fun e W' => e = .returned (.bool true) ∧ Below W.heap.size W W' := fun A c W h1 h2 =>
              same_lines lc Ac A cc c W h2 h1 (by omega) (fun l hl => by
                rw [hlc] at hl
                rcases List.mem_append.1 hl with hl | hl
                · have := HGA.out l hl; omega
                · have := HGB.out l hl; omega)
            have HLCE := Lib.hid hlc.symm
            clear hlc
            have SAME := Lib.hid hsame
            clear hsame
            rcases HNa.out with ⟨rfl, rfl, rfl⟩ | ⟨ad, rfl⟩
            · rcases HNb.out with ⟨rfl, rfl, rfl⟩ | ⟨ad, rfl⟩
              · obtain rfl : lc = [] := by simpa using HLCE.out.symm
                have SB := Lib.hid (Below.refl w3.heap.size w3)
                have SN := Lib.hid (LR.nil w3 0).lines
                go_wp2_with (first | (at_builtin; refine al_none 22 38 Tryd.underlying22 (by kernel_rfl) rfl (.tmp 71) (.tmp 72) rfl w3.heap.size (.slice none 0 0) 0 _ rfl (own_nil _ _ _ _) rfl ?_) | (at_builtin; refine al_none 22 38 Tryd.underlying22 (by kernel_rfl) rfl (.tmp 74) (.tmp 75) rfl w3.heap.size (.slice none 0 0) 0 _ rfl (own_nil _ _ _ _) rfl ?_))
                have HL5 := Lib.hid (HL3.out.below SB.out)
                have HLc5 := Lib.hid (HLc.out.below SB.out)
                refine (live_any _ HL5.out).mono ?_
                rintro e w6 ⟨rfl, hb6⟩
                have HLc6 := Lib.hid (HLc5.out.below hb6)
                have HN6 := Lib.hid (SN.out.below hb6)
                have HW6 := Lib.hid (bj (bj HW3.out SB.out) hb6)
                clear hb6
                go_wp2_with fail
                refine (SAME.out _ _ _ HN6.out HLc6.out).mono ?_
                rintro e w7 ⟨rfl, hb7⟩
                have HW7 := Lib.hid (bj HW6.out hb7)
                clear hb7
                go_wp2_with fail
                go_ret
                exact ⟨rfl, HW7.out⟩
              · obtain rfl : lc = lb := by simpa using HLCE.out.symm
                obtain ⟨xs, f1, f2⟩ := HLb3.out.flat
                have F1 := Lib.hid f1
                have F2 := Lib.hid f2
                clear f1 f2
                go_wp2_with (first | (at_builtin; refine al_none 22 38 Tryd.underlying22 (by kernel_rfl) rfl (.tmp 71) (.tmp 72) rfl w3.heap.size (.slice none 0 0) 0 _ rfl (own_nil _ _ _ _) rfl ?_) | (at_builtin; refine al_list 22 38 (.agg #[.int .i64 0, .int .i64 0, .int .i64 0, .int .i64 0, .int .u32 0, .int .i64 0, .slice none 0 0]) 72 Tryd.underlying22 (by kernel_rfl) (by decide) (by rfl) rfl (.tmp 74) (.tmp 75) rfl w3.heap.size (.slice none 0 0) 0 [] rfl (own_nil _ _ _ _) ad lc.length _ lc xs rfl rfl F1.out F2.out (by omega) (Nat.le_refl _) ?_; intro v5 w5 ho5 hg5 hat5; have hb5 := (Below.refl _ w3).grown hg5 (Nat.le_refl _) (fun b hb => by cases hb); obtain ⟨A5, c5, rfl, hS5⟩ := z_own ho5 (al_below F1.out hb5) (by omega); have SN := Lib.hid hS5; have SB := Lib.hid hb5; clear ho5 hg5 hat5 hS5 hb5))
                have HL5 := Lib.hid (HL3.out.below SB.out)
                have HLc5 := Lib.hid (HLc.out.below SB.out)
                refine (live_any _ HL5.out).mono ?_
                rintro e w6 ⟨rfl, hb6⟩
                have HLc6 := Lib.hid (HLc5.out.below hb6)
                have HN6 := Lib.hid (SN.out.below hb6)
                have HW6 := Lib.hid (bj (bj HW3.out SB.out) hb6)
                clear hb6
                go_wp2_with fail
                refine (SAME.out _ _ _ HN6.out HLc6.out).mono ?_
                rintro e w7 ⟨rfl, hb7⟩
                have HW7 := Lib.hid (bj HW6.out hb7)
                clear hb7
                go_wp2_with fail
                go_ret
                exact ⟨rfl, HW7.out⟩
            · obtain ⟨xs, f1, f2⟩ := HLa3.out.flat
              have F1 := Lib.hid f1
              have F2 := Lib.hid f2
              clear f1 f2
              rcases HNb.out with ⟨rfl, rfl, rfl⟩ | ⟨ad6, rfl⟩
              · obtain rfl : lc = la := by simpa using HLCE.out.symm
                go_wp2_with (first | (at_builtin; refine al_list 22 38 (.agg #[.int .i64 0, .int .i64 0, .int .i64 0, .int .i64 0, .int .u32 0, .int .i64 0, .slice none 0 0]) 72 Tryd.underlying22 (by kernel_rfl) (by decide) (by rfl) rfl (.tmp 71) (.tmp 72) rfl w3.heap.size (.slice none 0 0) 0 [] rfl (own_nil _ _ _ _) ad lc.length _ lc xs rfl rfl F1.out F2.out (by omega) (Nat.le_refl _) ?_; intro v4 w4 ho4 hg4 hat4; have HO4 := Lib.hid ho4; have HG4 := Lib.hid (show w3.grownBy w4 none from hg4); have HB4 := Lib.hid ((Below.refl _ w3).grown hg4 (Nat.le_refl _) (fun b hb => by cases hb)); clear ho4 hg4 hat4) | (at_builtin; refine al_none 22 38 Tryd.underlying22 (by kernel_rfl) rfl (.tmp 74) (.tmp 75) rfl w3.heap.size v4 (0 + lc.length) _ rfl HO4.out rfl ?_; obtain ⟨A5, c5, rfl, hS5⟩ := z_own HO4.out (al_below F1.out HB4.out) (by omega); have SN := Lib.hid hS5; have SB := HB4; clear hS5))
                have HL5 := Lib.hid (HL3.out.below SB.out)
                have HLc5 := Lib.hid (HLc.out.below SB.out)
                refine (live_any _ HL5.out).mono ?_
                rintro e w6 ⟨rfl, hb6⟩
                have HLc6 := Lib.hid (HLc5.out.below hb6)
                have HN6 := Lib.hid (SN.out.below hb6)
                have HW6 := Lib.hid (bj (bj HW3.out SB.out) hb6)
                clear hb6
                go_wp2_with fail
                refine (SAME.out _ _ _ HN6.out HLc6.out).mono ?_
                rintro e w7 ⟨rfl, hb7⟩
                have HW7 := Lib.hid (bj HW6.out hb7)
                clear hb7
                go_wp2_with fail
                go_ret
                exact ⟨rfl, HW7.out⟩
              · obtain ⟨ys, f1, f2⟩ := HLb3.out.flat
                have G1 := Lib.hid f1
                have G2 := Lib.hid f2
                clear f1 f2
                go_wp2_with (first | (at_builtin; refine al_list 22 38 (.agg #[.int .i64 0, .int .i64 0, .int .i64 0, .int .i64 0, .int .u32 0, .int .i64 0, .slice none 0 0]) 72 Tryd.underlying22 (by kernel_rfl) (by decide) (by rfl) rfl (.tmp 71) (.tmp 72) rfl w3.heap.size (.slice none 0 0) 0 [] rfl (own_nil _ _ _ _) ad la.length _ la xs rfl rfl F1.out F2.out (by omega) (Nat.le_refl _) ?_; intro v4 w4 ho4 hg4 hat4; have HO4 := Lib.hid ho4; have HG4 := Lib.hid (show w3.grownBy w4 none from hg4); have HB4 := Lib.hid ((Below.refl _ w3).grown hg4 (Nat.le_refl _) (fun b hb => by cases hb)); clear ho4 hg4 hat4) | (at_builtin; refine al_list 22 38 (.agg #[.int .i64 0, .int .i64 0, .int .i64 0, .int .i64 0, .int .u32 0, .int .i64 0, .slice none 0 0]) 72 Tryd.underlying22 (by kernel_rfl) (by decide) (by rfl) rfl (.tmp 74) (.tmp 75) rfl w3.heap.size v4 (0 + la.length) _ rfl HO4.out ad6 lb.length _ lb ys rfl rfl (al_below G1.out HB4.out) (fun j u hu => pw_cell_below HB4.out (G2.out j u hu)) (by omega) HB4.out.size ?_; intro v5 w5 ho5 hg5 hat5; obtain ⟨A5, c5, rfl, hS5, hb5⟩ := z_two HO4.out HG4.out hg5 ho5 F1.out G1.out HLCE.out (by rw [List.length_append]; omega); have SN := Lib.hid hS5; have SB := Lib.hid hb5; clear ho5 hg5 hat5 hS5 hb5))
                have HL5 := Lib.hid (HL3.out.below SB.out)
                have HLc5 := Lib.hid (HLc.out.below SB.out)
                refine (live_any _ HL5.out).mono ?_
                rintro e w6 ⟨rfl, hb6⟩
                have HLc6 := Lib.hid (HLc5.out.below hb6)
                have HN6 := Lib.hid (SN.out.below hb6)
                have HW6 := Lib.hid (bj (bj HW3.out SB.out) hb6)
                clear hb6
                go_wp2_with fail
                refine (SAME.out _ _ _ HN6.out HLc6.out).mono ?_
                rintro e w7 ⟨rfl, hb7⟩
                have HW7 := Lib.hid (bj HW6.out hb7)
                clear hb7
                go_wp2_with fail
                go_ret
                exact ⟨rfl, HW7.out⟩
          · have h3 : ec = eb ∧ nb ≤ nc := LW.out.1 hf
            have hb0 : (eb == 0) = false := beq_eq_false_iff_ne.mpr hf
            obtain ⟨h5, h4⟩ := h3
            subst h5
            have hd4 : decide (nb ≤ nc) = true := decide_eq_true h4
            go_wp2_with fail
            refine LIV.out.mono ?_
            rintro e w5 ⟨rfl, hb5⟩
            have HW5 := Lib.hid (bj HW3.out hb5)
            clear hb5
            go_wp2_with fail
            go_ret
            exact ⟨rfl, HW5.out⟩
        · have hd : decide ((60000 : Int) < (la.length : Int) + (lb.length : Int)) = true := decide_eq_true (by omega)
          go_wp2_with fail
          refine LIV.out.mono ?_
          rintro e w5 ⟨rfl, hb5⟩
          have HW5 := Lib.hid (bj HW3.out hb5)
          clear hb5
          go_wp2_with fail
          go_ret
          exact ⟨rfl, HW5.out⟩
      · have hb0 : (ea == 0) = false := beq_eq_false_iff_ne.mpr ha
        go_wp2_with fail
        refine LIV.out.mono ?_
        rintro e w5 ⟨rfl, hb5⟩
        have HW5 := Lib.hid (bj HW3.out hb5)
        clear hb5
        go_wp2_with fail
        go_ret
        exact ⟨rfl, HW5.out⟩

theorem lines_bytes (s t : ByteArray) (w : World) (hL : LLaid w) (hs : s.size ≤ 2000000) (ht : t.size ≤ 2000000) :
    Calls Tryd.prog 6 #[.string s, .string t] w fun e w' => e = .returned (.bool true) ∧ Below w.heap.size w w' := by
  have h := lines_any s.data.toList t.data.toList w hL (by rw [Array.length_toList]; exact hs) (by rw [Array.length_toList]; exact ht)
  rw [baL_data, baL_data] at h
  exact h


end Go.Proofs.YtlhgfhmdhmgmpaaDoor
