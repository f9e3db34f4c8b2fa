/- lex.Lex, given to the print: its plain form and its contract, walked over its real body. -/
import Derived.Test.YtjoboaaambdpoaaDoorPR01x0
import Derived.Test.YtjoboaaambdpoaaDoorLxP
import Derived.Deep.RegionLaw
import Derived.Deep.RegionHeld3
import Derived.Outline
set_option linter.unusedVariables false
set_option linter.unusedSimpArgs false
namespace Go.Proofs.YtjoboaaambdpoaaDoor.PR01
open Go.RowKit Go.Proofs.YtjoboaaambdpoaaDoorW.PrintWords Go.Proofs.YtjoboaaambdpoaaDoorW.PrintLast Go.Proofs.YtjoboaaambdpoaaDoorW.PrintMore Go.Maps Go.Joins
attribute [local go_sem ↓] Go.wp_at_zero Go.wp_at_succ

def tokS (n : Nat) (p : Nat × T) : S29 := ⟨p.2.kind, ((n - p.1 : Nat) : Int), ⟨p.2.text.toArray⟩, p.2.num, p.2.uns⟩
def endS (n : Nat) : S29 := ⟨0, (n : Int), ⟨#[]⟩, 0, false⟩

/-- The lexer's answer. -/
def lexR (src : ByteArray) : List S29 × Int × Int :=
  if 20000 < src.size then ([], 0, 2)
  else if 3999 < (raw src.data.toList).1.length then ([], ((src.size - ((raw src.data.toList).1.getD 3999 (0, ⟨0, [], 0, false⟩)).1 : Nat) : Int), 15)
  else if (raw src.data.toList).2.1 = 0 then ((raw src.data.toList).1.map (tokS src.size) ++ [endS src.size], 0, 0)
  else ([], ((src.size - (raw src.data.toList).2.2 : Nat) : Int), (raw src.data.toList).2.1)

theorem lexR_end {src : ByteArray} {acc : List (Nat × T)} {x : Nat} (hs : src.size ≤ 20000) (ha : acc.length ≤ 3999) (h : raw src.data.toList = (acc, 0, x)) : lexR src = (acc.map (tokS src.size) ++ [endS src.size], 0, 0) := by
  unfold lexR
  rw [if_neg (by omega), h, if_neg (by simp only; omega), if_pos rfl]

theorem lexR_err {src : ByteArray} {acc : List (Nat × T)} {j : Nat} {e : Int} (hs : src.size ≤ 20000) (ha : acc.length ≤ 3999) (he : e ≠ 0) (hj : j ≤ src.size) (h : raw src.data.toList = (acc, e, src.size - j)) : lexR src = ([], (j : Int), e) := by
  unfold lexR
  rw [if_neg (by omega), h, if_neg (by simp only; omega), if_neg he]
  simp only
  rw [show src.size - (src.size - j) = j by omega]

theorem lexR_many {src : ByteArray} {acc ts : List (Nat × T)} {j : Nat} {t : T} {y : Int × Nat} (hs : src.size ≤ 20000) (ha : acc.length = 3999) (hj : j ≤ src.size) (h : raw src.data.toList = (acc ++ (src.size - j, t) :: ts, y)) : lexR src = ([], (j : Int), 15) := by
  unfold lexR
  rw [if_neg (by omega), h, if_pos (by simp only [List.length_append, List.length_cons]; omega)]
  simp only
  have : (acc ++ (src.size - j, t) :: ts).getD 3999 (0, ⟨0, [], 0, false⟩) = (src.size - j, t) := by
    rw [List.getD_eq_getElem?_getD, ← ha, List.getElem?_append_right (Nat.le_refl _)]
    simp
  rw [this, show src.size - (src.size - j) = j by omega]

theorem skipF_ge (src : ByteArray) : ∀ (f i : Nat), i ≤ src.size → i ≤ (skipF src f i).2
  | 0, i, _ => Nat.le_refl _
  | f + 1, i, hi => by
    rw [skipF]
    split
    · split
      · exact Nat.le_trans (Nat.le_succ _) (skipF_ge src f (i + 1) (by omega))
      · split
        · split
          · rename_i h1 _ _ h2
            have hl : (src.data.toList.drop i).length = src.size - i := drop_len src i
            have := indexByte_lt (src.data.toList.drop i) 10
            have hb : i + (Lib.indexByte (src.data.toList.drop i) 10).toNat ≤ src.size := by
              rcases this with h | h
              · omega
              · rw [h] at h2; exact absurd h2 (by decide)
            exact Nat.le_trans (by omega) (skipF_ge src f _ hb)
          · exact Nat.le_trans hi (skipF_ge src f src.size (Nat.le_refl _))
        · split
          · split
            · exact Nat.le_refl _
            · rename_i h2
              have hl : (src.data.toList.drop (i + 2)).length = src.size - (i + 2) := drop_len src (i + 2)
              have hb : i + (Lib.index (src.data.toList.drop (i + 2)) [42, 47]).toNat + 4 ≤ src.size := by
                rcases index_le (src.data.toList.drop (i + 2)) [42, 47] with h | h
                · simp only [List.length_cons, List.length_nil] at h
                  omega
                · omega
              exact Nat.le_trans (by omega) (skipF_ge src f _ hb)
          · exact Nat.le_refl _
    · exact Nat.le_refl _

/-- append of one element onto an own row, at a step of a region that draws, in whatever world. -/
theorem Rn_step {α : Type} {P : Program} (d : Kd α) {W : World} {ops : Array Oper} {o : Oper} {a : Act} {K : Act → World → Prop} {Q : Exit → Act → World → Prop} {E : Prop} (hgd : o.guard = none) (s x : Operand) (t e : TypeId) (z : Value) (bytes : Nat)
    (ho : o.op = .call { callee := .builtin .append, args := #[s, x], argTypes := #[t, t] })
    (ht : P.underlying t = some (.slice e)) (hinfo : (P.info? e).map (fun i => (i.zero, i.size, i.bytes)) = some (some z, d.sz, bytes)) (hz : z.cells.size = d.sz) (hs0 : 0 < d.sz)
    (base : Nat) (v : Value) (xs : List α) (p : α) (cs : List Value) (ok okp : Nat → Prop) (hs : a.eval s = v) (ad : Addr) (c : Nat) (hx : a.eval x = .slice (some ad) 1 c)
    (hnews : ∀ j u, cs[j]? = some u → W.cell? (ad.add j) = some u) (hp : d.M W base okp p cs) (hokp : ∀ k, okp k → ok k ∧ some k ≠ v.ownBlock) (hfresh : ∀ k, W.heap.size ≤ k → ok k)
    (HO : d.R e W base ok v xs) (hbase : base ≤ W.heap.size) (hl : (xs.length + 1) * bytes ≤ 140737488355328) (hl2 : xs.length ≤ 1000000)
    (h : ∀ g cap w1, d.R e w1 base ok (.slice (some ⟨g, 0, none⟩) (xs.length + 1) cap) (xs ++ [p]) → W.grownBy w1 v.ownBlock → K (a.put o.dst (.slice (some ⟨g, 0, none⟩) (xs.length + 1) cap)) w1) :
    if Region.wanted o (yielded ops a.tmps) = true then Oper.wp P o a W K Q else E := by
  obtain ⟨i0, hi, hzz⟩ := Option.map_eq_some_iff.1 hinfo
  simp only [Prod.mk.injEq] at hzz
  obtain ⟨hz0, hz1, hz2⟩ := hzz
  obtain ⟨h0, inner, hown, hr⟩ := HO
  refine step_append_lies W hgd s x t ho base e i0 z d.sz bytes ht hi hz0 hz1 hz2 hz hs0 v xs.length inner hs hown ad 1 c cs hx (by rw [d.K_len (d.K_of_M hp)]; omega) hnews (d.K_one (d.K_of_M hp)) (by decide) (by unfold maxLen; omega) hl hbase _ rfl ?_
  intro g cap w1 hown1 hg1 hat hlt
  exact h g cap w1 (Kd.R_appended h0 hr hp hokp hfresh hown1 hg1 (by
    rcases hat with hat | hat
    · exact .inl hat.symm
    · exact .inr ⟨g, rfl, by omega⟩)) hg1

theorem Sc.grown {W w1 : World} {g : Nat} {src : ByteArray} {i : Int} {sl : Value} {row : Option Nat} (h : Sc W g src i sl) (hg : W.grownBy w1 row) (hne : some g ≠ row) : Sc w1 g src i sl := ⟨(hg.block g h.lt hne).trans h.blk⟩

/-- A row of one's own grown, behind a new block: what was below is as it was. -/
theorem below_grown_any {w w1 w2 : World} {o : Obj} {v : Value} (hb : Below w.heap.size w w1) (hg : (w1.alloc o).drew.grownBy w2 v.ownBlock) (hv : ∀ b, v.ownBlock = some b → w.heap.size ≤ b) : Below w.heap.size w w2 := by
  have h1 : Below w.heap.size w (w1.alloc o).drew := Below.drew (hb.alloc hb.size o)
  exact h1.grown hg h1.size hv

/-! ### lex_Lex: function 11 -/
def lex_Lex.f (a0 : ByteArray) : Option ((List (S29)) × Int × Int) := some (lexR a0)

set_option maxHeartbeats 8000000 in
set_option maxRecDepth 100000 in
theorem lex_Lex.calls (a0 : ByteArray) (r1 : List (S29)) (r2 : Int) (r3 : Int) (w : World) (hLaid_ : Aside0 (Laid w)) (h : lex_Lex.f a0 = some (r1, r2, r3)) :
    Calls Tryd.prog 11 #[.string a0] w fun e w' => ∃ v0_ : Value, e = .returned (.tuple #[v0_, .int .i64 r2, .int .i64 r3]) ∧ Kd.R k29 29 w' w.heap.size (fun _ => True) v0_ r1 ∧ Below w.heap.size w w' := by
  have HR := Lib.hid (show lexR a0 = (r1, r2, r3) from Option.some.inj h)
  have HL := Lib.hid hLaid_.out
  clear h hLaid_
  obtain ⟨src, rfl⟩ : ∃ src, src = a0 := ⟨_, rfl⟩
  by_cases hbig : 20000 < src.size
  · have HE := Lib.hid (show (r1, r2, r3) = ([], 0, 2) by rw [← HR.out]; unfold lexR; rw [if_pos hbig])
    have hd : decide ((20000 : Int) < (src.size : Int)) = true := decide_eq_true (by omega)
    go_enter Tryd.func11, Tryd.ntmps11
    go_wp2_with fail
    go_ret3
    cases HE.out
    exact ⟨_, rfl, Kd.R_nil _ _ _ _ _, Below.refl _ _⟩
  have hd : decide ((20000 : Int) < (src.size : Int)) = false := decide_eq_false (by omega)
  have hs : src.size ≤ 20000 := by omega
  obtain ⟨g, hg⟩ : ∃ g, g = w.heap.size := ⟨_, rfl⟩
  have HG := Lib.hid hg
  clear hg
  go_enter Tryd.func11, Tryd.ntmps11
  go_wp2_with fail
  go_loopw [7] (fun s wr => ∃ (k : Nat) (acc : List (Nat × T)) (v : Value), k ≤ src.size ∧ acc.length ≤ 3999 ∧ (∃ x, s = x) ∧ Hid (raw src.data.toList = (acc ++ (raw (src.data.toList.drop k)).1, (raw (src.data.toList.drop k)).2)) ∧ Hid (Sc wr w.heap.size src k v) ∧ Hid (Kd.R k29 29 wr w.heap.size (fun b => b ≠ w.heap.size) v (acc.map (tokS src.size))) ∧ Hid (Below w.heap.size w wr)) (fun _ wr => src.size - posOf w.heap.size wr)
  case atStart => exact ⟨0, [], .slice none 0 0, Nat.zero_le _, Nat.zero_le _, ⟨_, rfl⟩, Lib.hid rfl, Lib.hid ⟨heap_alloc_new w _⟩, Lib.hid (Kd.R_nil _ _ _ _ _), Lib.hid ((Below.refl _ _).alloc (Nat.le_refl _) _)⟩
  case round =>
    obtain ⟨k, acc, v, hk, ha, ⟨x, rfl⟩, hraw, hS, hV, hB⟩ := hrel
    obtain ⟨A, c, rfl⟩ := Kd.R_slice hV.out
    obtain ⟨xs, hxs⟩ : ∃ xs, xs = acc.map (tokS src.size) := ⟨_, rfl⟩
    have hxl : xs.length = acc.length := by rw [hxs, List.length_map]
    rw [← hxs] at hV hS
    have HXS := Lib.hid hxs
    have HXL := Lib.hid hxl
    clear hxs hxl
    have hsr := skip_raw src (src.size - k + 1) k hk (by omega)
    have hge := skipF_ge src (src.size - k + 1) k hk
    have CS := Lib.hid (skip_any w.heap.size src k (.slice A xs.length c) w wr hS.out (by omega) hk hB.out (Nat.le_refl _) HL.out)
    generalize skipF src (src.size - k + 1) k = sk at hsr hge CS
    obtain ⟨b, j⟩ := sk
    simp only at hsr hge CS
    obtain ⟨hsr1, hsr2⟩ := hsr
    go_wp2_with fail
    refine CS.out.mono ?_
    rintro e w1 ⟨rfl, hs1, hj, hb1, hkb⟩
    have HV1 := Lib.hid (Kd.R_keep hV.out hkb (fun _ h => h))
    have k0 := hs1.c0
    have k1 := hs1.c1
    have k2 := hs1.c2
    have f1 := hs1.f1
    have f2 := hs1.f2
    have HS1 := Lib.hid hs1
    have HB1 := Lib.hid hb1
    clear hs1 hb1 hkb CS
    cases b with
    | false =>
      have HE := Lib.hid (lexR_err (acc := acc) (j := j) (e := 13) hs ha (by decide) hj (by rw [hraw.out, hsr2 rfl, List.append_nil]))
      clear hsr1 hsr2
      go_wp2_with fail
      go_quiet (fail)
      go_wp2_with fail
      go_ret3
      cases HR.out.symm.trans HE.out
      exact ⟨_, rfl, Kd.R_nil _ _ _ _ _, by repeat (first | exact HB1.out | apply pw_below_drewN)⟩
    | true =>
      obtain ⟨hr1, hr2⟩ := hsr1 rfl
      clear hsr1 hsr2
      by_cases hjs : j = src.size
      · subst hjs
        go_wp2_with fail
        have HE := Lib.hid (lexR_end (acc := acc) (x := 0) hs ha (by rw [hraw.out, hr1, show src.data.toList.drop src.size = [] from List.drop_eq_nil_of_le (by rw [Array.length_toList]; exact Nat.le_refl _), show raw [] = ([], 0, 0) from rfl, List.append_nil]))
        have hbs := HB1.out.size
        go_region_held3 (fun w' => w'.cell? ⟨w.heap.size, 1, none⟩ = some (.int .i64 (src.size : Int)) ∧ w'.cell? ⟨w.heap.size, 2, none⟩ = some (.slice A xs.length c)) (first | go_keep | skip) ((refine Rn_step k29 (by rfl) (.tmp 32) (.tmp 38) 22 29 (.agg #[(.int .i64 0), (.int .i64 0), (.string ⟨#[]⟩), (.int .u32 0), (.bool false)]) 40 (by rfl) Tryd.underlying22 info29 rfl (by decide) w.heap.size (.slice A xs.length c) xs (endS src.size) [.int .i64 0, .int .i64 (src.size : Int), .string (⟨#[]⟩ : ByteArray), .int .u32 0, .bool false] (fun b => b ≠ w.heap.size) (fun _ => False) (by rfl) ⟨w1.heap.size, 0, none⟩ 1 (by rfl) (World.news_of_block (heap_alloc_new w1 _)) (k29_mkM _ _ _ (endS src.size)) (fun _ h => h.elim) (fun b h => by simp at h; omega) (by with_reducible repeat (first | exact HV1.out | apply Kd.R_alloc | apply Kd.R_drewN | apply Kd.R_drew)) (by simp; omega) (by have := HXL.out; omega) (by have := HXL.out; omega) ?_; intro g2 cap w2 ho hg; have hs2 := Sc.grown (HS1.out.alloc _).drew hg (Kd.R_away HV1.out (fun _ h => h)); have k12 := hs2.c1; have k22 := hs2.c2; have HO2 := Lib.hid ho; have HB2 := Lib.hid (below_grown_any HB1.out hg (Kd.R_base HV1.out)); clear hs2 ho hg))
        go_wp2_with fail
        go_ret3
        cases HR.out.symm.trans HE.out
        exact ⟨_, rfl, by rw [← HXS.out]; exact Kd.R_mono HO2.out (fun _ _ => trivial), HB2.out⟩
      · have hjl : j < src.size := by omega
        have hst := hr2 hjl
        obtain ⟨ht1, ht2⟩ := tok_raw src j hjl
        have CT := Lib.hid (fun W (h : Sc W w.heap.size src j (.slice A xs.length c)) (hl : Laid W) => token_any w.heap.size src j _ W h (by omega) hjl hl)
        obtain ⟨o, ho⟩ : ∃ o, o = tokP src j := ⟨_, rfl⟩
        rw [← ho] at ht1 ht2 CT
        obtain ⟨kind, text, num, uns, n, err⟩ := o
        unfold tokV at CT
        simp only at ht1 ht2 CT
        have hlt : (src.data.toList.drop j).length = src.size - j := drop_len src j
        have hdj : decide ((src.size : Int) ≤ (j : Int)) = false := decide_eq_false (by omega)
        have hjj : ¬ (src.size : Int) ≤ (j : Int) := by omega
        clear ho hr2
        by_cases he : err = 0
        · subst he
          obtain ⟨ht, hn0⟩ := ht2 rfl
          rw [ht] at hst
          have hnn := stepL_tok hst
          rw [hlt] at hnn
          have HT := Lib.hid (raw_tok hst)
          have HTL := Lib.hid hlt
          clear ht1 ht2 ht hst hlt
          go_wp2_with fail
          refine (CT.out _ HS1.out (HL.out.below HB1.out)).mono ?_
          rintro e w2 ⟨rfl, hb2⟩
          have hs2 := HS1.out.below hb2
          have HV2 := Lib.hid (Kd.R_below HV1.out hb2)
          have HB2 := Lib.hid (bj HB1.out hb2)
          have k02 := hs2.c0
          have k12 := hs2.c1
          have k22 := hs2.c2
          have f12 := hs2.f1
          have f22 := hs2.f2
          have HS2 := Lib.hid hs2
          have hlw := hs2.lt
          clear hs2 hb2 CT k0 k1 k2 f1 f2
          have hwn : IntKind.i64.wrap ((j : Int) + n) = (j : Int) + n := IntWalk.i64_in _ (by omega)
          by_cases hm : acc.length = 3999
          · have hd2 : decide ((3999 : Int) ≤ (xs.length : Int)) = true := decide_eq_true (by have := HXL.out; omega)
            have HE := Lib.hid (lexR_many (acc := acc) (j := j) hs hm hj (by rw [hraw.out, hr1, HT.out, HTL.out]))
            clear hr1
            go_wp2_with fail
            go_quiet (fail)
            go_wp2_with fail
            go_ret3
            cases HR.out.symm.trans HE.out
            exact ⟨_, rfl, Kd.R_nil _ _ _ _ _, by repeat (first | exact HB2.out | apply pw_below_drewN | apply below_alloc)⟩
          · have hd2 : decide ((3999 : Int) ≤ (xs.length : Int)) = false := decide_eq_false (by have := HXL.out; omega)
            have hbs := HB2.out.size
            obtain ⟨tb, htb⟩ : ∃ tb, tb = w2.heap.size := ⟨_, rfl⟩
            have HTB := Lib.hid htb
            go_wp2_with fail
            rw [← htb]
            obtain ⟨W3, hW3⟩ : ∃ W3 : World, W3 = w2.alloc (.cells #[.int .i64 kind, .int .i64 (j : Int), .string text, .int .u32 num, .bool uns] 29) := ⟨_, rfl⟩
            rw [← hW3]
            have hs3 : Sc W3 w.heap.size src j (.slice A xs.length c) := by rw [hW3]; exact HS2.out.alloc _
            have hT3 : W3.heap[tb]? = some (.cells #[.int .i64 kind, .int .i64 (j : Int), .string text, .int .u32 num, .bool uns] 29 (0, 0)) := by rw [hW3, htb]; exact heap_alloc_new w2 _
            have HV3 : Hid (Kd.R k29 29 W3 w.heap.size (fun b => b ≠ w.heap.size) (.slice A xs.length c) xs) := Lib.hid (by rw [hW3]; exact Kd.R_alloc HV2.out _)
            have HB3 : Hid (Below w.heap.size w W3) := Lib.hid (by rw [hW3]; exact HB2.out.alloc hbs _)
            have HN3 := Lib.hid (show some tb ≠ (Value.slice A xs.length c).ownBlock from fun e => by have := Kd.R_lt HV2.out tb e.symm; rw [htb] at this; exact absurd this (Nat.lt_irrefl _))
            have hw3 := HB3.out.size
            have hgt : w.heap.size < tb := by rw [htb]; exact hlw
            clear k02 k12 k22 f12 f22 hW3 htb hlw hbs HS2 HV2 HB2
            have k03 := hs3.c0
            have k13 := hs3.c1
            have k23 := hs3.c2
            have f13 := hs3.f1
            have f23 := hs3.f2
            have x0 := cell_of_block hT3 0
            have x1 := cell_of_block hT3 1
            have x2 := cell_of_block hT3 2
            have x3 := cell_of_block hT3 3
            have x4 := cell_of_block hT3 4
            have HS3 := Lib.hid hs3
            have HT3 := Lib.hid hT3
            have n1 : ¬ w.heap.size = tb := by omega
            have n2 : ¬ tb = w.heap.size := by omega
            have q3 := ka (.cells #[.int .i64 kind, .int .i64 (j : Int), .string text, .int .u32 num, .bool uns] 29) k23
            have q4 := World.new_ne W3 ⟨tb, 0, none⟩ x0
            clear hs3 hT3
            go_region_law ((refine Rn_step k29 (by rfl) (.tmp 69) (.tmp 71) 22 29 (.agg #[(.int .i64 0), (.int .i64 0), (.string ⟨#[]⟩), (.int .u32 0), (.bool false)]) 40 (by rfl) Tryd.underlying22 info29 rfl (by decide) w.heap.size (.slice A xs.length c) xs (⟨kind, (j : Int), text, num, uns⟩ : S29) [.int .i64 kind, .int .i64 (j : Int), .string text, .int .u32 num, .bool uns] (fun b => b ≠ w.heap.size) (fun _ => False) (by rfl) ⟨W3.heap.size, 0, none⟩ 1 (by rfl) (World.news_of_block (heap_alloc_new W3 _)) (k29_mkM _ _ _ (⟨kind, (j : Int), text, num, uns⟩ : S29)) (fun _ h => h.elim) (fun b h => by simp at h; omega) (by with_reducible repeat (first | exact HV3.out | apply Kd.R_alloc | apply Kd.R_drewN | apply Kd.R_drew)) (by simp; omega) (by have := HXL.out; omega) (by have := HXL.out; omega) ?_; intro g2 cap w5 ho hg; have hs5 := Sc.grown (HS3.out.alloc _).drew hg (Kd.R_away HV3.out (fun _ h => h)); have hT5 := (hg.block tb (blk_lt (blk_drew (blk_alloc HT3.out _))) HN3.out).trans (blk_drew (blk_alloc HT3.out _)); have k05 := hs5.c0; have k15 := hs5.c1; have k25 := hs5.c2; have f15 := hs5.f1; have f25 := hs5.f2; have x05 := cell_of_block hT5 0; have x15 := cell_of_block hT5 1; have x25 := cell_of_block hT5 2; have x35 := cell_of_block hT5 3; have x45 := cell_of_block hT5 4; have HO5 := Lib.hid ho; have HS5 := Lib.hid hs5; have HB5 := Lib.hid (below_grown_any HB3.out hg (Kd.R_base HV3.out)); clear hs5 ho hg hT5))
            go_wp2_with fail
            all_goals
              have HSN : Sc ((w5.setCell ⟨w.heap.size, 2, none⟩ (.slice (some ⟨g2, 0, none⟩) (xs.length + 1) cap)).setCell ⟨w.heap.size, 1, none⟩ (.int .i64 ((j : Int) + n))) w.heap.size src ((j + n.toNat : Nat) : Int) (.slice (some ⟨g2, 0, none⟩) (xs.length + 1) cap) := Sc.setTo (HS5.out.set2 _) ((j : Int) + n) (j + n.toNat) (by omega)
              refine ⟨⟨j + n.toNat, acc ++ [(src.size - j, ⟨kind, text.data.toList, num, uns⟩)], _, by omega, by rw [List.length_append]; show acc.length + 1 ≤ 3999; omega, ⟨_, rfl⟩, Lib.hid ?_, Lib.hid HSN, Lib.hid ?_, Lib.hid ?_⟩, ?_⟩
              · rw [hraw.out, hr1, HT.out, HTL.out, List.drop_drop, List.append_assoc]
                rfl
              · rw [List.map_append, ← HXS.out, List.map_singleton, show tokS src.size (src.size - j, ⟨kind, text.data.toList, num, uns⟩) = ⟨kind, (j : Int), text, num, uns⟩ by unfold tokS; rw [show src.size - (src.size - j) = j by omega]]
                exact Kd.R_far (Kd.R_far HO5.out (fun _ h => h) _) (fun _ h => h) _
              · exact (HB5.out.setCell (Nat.le_refl _) _).setCell (Nat.le_refl _) _
              · rw [posOf_sc hS.out, posOf_sc HSN]
                omega
        · have HE := Lib.hid (lexR_err (acc := acc) (j := j) (e := err) hs ha he hj (by rw [hraw.out, hr1, raw_bad (hst.trans (ht1 he)), hlt, List.append_nil]))
          have hen : (err != 0) = true := by simpa using he
          clear ht1 ht2 hst hlt hr1
          go_wp2_with fail
          refine (CT.out _ HS1.out (HL.out.below HB1.out)).mono ?_
          rintro e w2 ⟨rfl, hb2⟩
          have hs2 := HS1.out.below hb2
          have HB2 := Lib.hid (bj HB1.out hb2)
          have k02 := hs2.c0
          have k12 := hs2.c1
          have hlw := hs2.lt
          clear hs2 hb2 CT k0 k1 k2 f1 f2
          go_wp2_with fail
          go_quiet (fail)
          go_wp2_with fail
          go_ret3
          cases HR.out.symm.trans HE.out
          exact ⟨_, rfl, Kd.R_nil _ _ _ _ _, by repeat (first | exact HB2.out | apply pw_below_drewN | apply below_alloc)⟩

end Go.Proofs.YtjoboaaambdpoaaDoor.PR01
