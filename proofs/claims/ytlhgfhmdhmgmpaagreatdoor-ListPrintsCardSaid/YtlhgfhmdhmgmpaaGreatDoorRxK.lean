/- relax's assembler: a line's words are laid down. -/
import Derived.Test.YtlhgfhmdhmgmpaaGreatDoorRxJ
import Derived.Test.YtlhgfhmdhmgmpaaGreatDoorRxH
namespace Go.Proofs.YtlhgfhmdhmgmpaaGreatDoor
open Go.RowKit Go.Proofs.YtlhgfhmdhmgmpaaGreatDoorW.PrintWords Go.Maps Go.Joins

/-- A label's place, as the map tells it. -/
def toW (f : Int → Option Int) (x : Int) : Int := (f x).getD 0

def lineW (f : Int → Option Int) (lg : Bool) (place : Int) (l : Line) : List Int :=
  if l.op = 0 then [] else
  if brOp l.op = true ∧ lg = false then [(enc l.op l.a l.b (toW f l.label - place - 1)).1] else
  if brOp l.op = true then (if isBr l.op = true then [(enc (otherOp l.op) l.a l.b 2).1] else []) ++ [(enc 41 0 0 0).1, toW f l.label] else
  if goOp l.op = true then [(enc l.op l.a l.b l.imm).1, toW f l.label] else
  if l.op = 2 then [(enc l.op l.a l.b l.imm).1, l.n] else
  if l.op = 42 then (enc l.op l.a l.b l.imm).1 :: (l.list.length : Int) :: l.list.map (toW f) else
  [(enc l.op l.a l.b l.imm).1]

def lineK (lg : Bool) (l : Line) : List Int :=
  if l.op = 0 then [] else
  if brOp l.op = true ∧ lg = false then [1] else
  if brOp l.op = true then (if isBr l.op = true then [1] else []) ++ [1, 2] else
  if goOp l.op = true then [1, 2] else
  if l.op = 2 then [1, 2] else
  if l.op = 42 then 1 :: 3 :: l.list.map (fun _ => 3) else
  [1]

theorem Laid.only {w w' : World} {B h : Nat} (hL : Laid w) (o : Only B h w w') (hB : 1 < B) (hh : h ≠ 1) : Laid w' :=
  ⟨Nat.lt_of_lt_of_le hL.1 o.size, fun i hi => by rw [World.cell?_of_block (o.block 1 hB (Ne.symm hh))]; exact hL.2 i hi⟩

theorem own_lt {w : World} {b e s n : Nat} {v : Value} {xs : List Value} (o : w.ownsRow b e s v n xs) (k : Nat) (hk : v.ownBlock = some k) : k < w.heap.size := by
  rcases o.2 with ⟨rfl, _⟩ | ⟨g, cap, cur, rfl, _, hg, _⟩
  · cases hk
  · cases hk
    exact (Array.getElem?_eq_some_iff.1 hg).1

theorem mapc (l : List Int) (x : Int) : l.map (fun _ => x) = List.replicate l.length x := by
  induction l with
  | nil => rfl
  | cons a l ih => rw [List.map_cons, ih]; rfl

theorem OI.wLt {w : World} {B h : Nat} {ws ks : List Int} {pv : Value} {r : Int} {wv kv : Value} (o : OI w B h ws ks pv r wv kv) (k : Nat) (hk : wv.ownBlock = some k) : k < w.heap.size := own_lt o.ow k hk

theorem data_one (w : World) (x : Int) (own : Option Nat) (ho : ∀ k, own = some k → k < w.heap.size) : DataAt (w.alloc (.cells #[.int .u32 x] 47)) own (.slice (some ⟨w.heap.size, 0, none⟩) 1 1) [x] :=
  .inr ⟨_, 1, rfl, Nat.one_pos, one_new w .u32 x _, by rw [World.size_alloc]; exact Nat.lt_succ_self _, fun e => by have := ho _ e; simp at this⟩

set_option maxRecDepth 100000 in
set_option maxHeartbeats 4000000 in
theorem line_anyX (w0 w9 w : World) (g mb lb pb : Nat) (A : Option Addr) (n c : Nat) (ls : List Line) (long : List Bool) (places : List Int) (words : Int) (f : Int → Option Int)
    (B h : Nat) (ws ks : List Int) (pv : Value) (r : Int) (wv kv : Value) (i : Nat) (l : Line)
    (H : LI w0 w9 w g mb lb pb A n c long places words f) (hl : Lines w0 (.slice A n c) ls) (hs : Sized ls) (hi : i < n) (hli : ls[i]? = some l)
    (hL : Laid w) (o : OI w B h ws ks pv r wv kv) (hB : B ≤ w.heap.size) (hw : ws.length ≤ 30000000) (hk : ks.length ≤ 30000000)
    (hp0 : 0 ≤ places.getD i 0) (hp1 : places.getD i 0 ≤ 100000000) (hf : ∀ x, 0 ≤ toW f x ∧ toW f x ≤ 100000000) (hlab : ∀ x ∈ l.list, (Lit.int .i64 x).wf = true) (hh : h ≠ 1) (hGB : 1 < B) :
    Calls Tryz.prog 44 #[.pointer (some ⟨g, 0, none⟩), .pointer (some ⟨h, 0, none⟩), .int .i64 i] w
      fun e w' => e = .returned (.tuple #[]) ∧ (∃ wv' kv', OI w' B h (ws ++ lineW f (long.getD i false) (places.getD i 0) l) (ks ++ lineK (long.getD i false) l) pv r wv' kv') ∧ Only B h w w' := by
  have hlw := hl.below H.bel
  obtain ⟨ad, l', v, rfl, hli', hat, hv⟩ := hlw.at_ i hi
  obtain rfl : l = l' := Option.some.inj (hli.symm.trans hli')
  obtain ⟨k0, k1, k2, k3, k4, k5, k6⟩ := hat
  have q0 := H.c0
  have HH := Lib.hid H
  have HV := Lib.hid hv
  have HLW := Lib.hid hlw
  have HLI := Lib.hid hli
  have HO := Lib.hid o
  have HL := Lib.hid hL
  have hmem : l ∈ ls := List.mem_of_getElem? hli
  have hlist := hs.lists l hmem
  have hlbl := hs.labels l hmem
  obtain ⟨AL, cL, rfl, hr⟩ := hv
  clear hr hmem hs hl H hlw hli hli' o hL
  have HF := Lib.hid hf
  clear hf
  go_enter Tryz.func44, Tryz.ntmps44
  go_wp2_with fail
  have b0 : (w.alloc (.cells #[.int .i64 l.op, .int .i64 l.a, .int .i64 l.b, .int .i64 l.imm, .int .u32 l.n, .int .i64 l.label, .slice AL l.list.length cL] 49)).cell? ⟨w.heap.size, 0, none⟩ = some (.int .i64 l.op) := kn 0 rfl
  have b4 : (w.alloc (.cells #[.int .i64 l.op, .int .i64 l.a, .int .i64 l.b, .int .i64 l.imm, .int .u32 l.n, .int .i64 l.label, .slice AL l.list.length cL] 49)).cell? ⟨w.heap.size, 4, none⟩ = some (.int .u32 l.n) := kn 4 rfl
  have b5 : (w.alloc (.cells #[.int .i64 l.op, .int .i64 l.a, .int .i64 l.b, .int .i64 l.imm, .int .u32 l.n, .int .i64 l.label, .slice AL l.list.length cL] 49)).cell? ⟨w.heap.size, 5, none⟩ = some (.int .i64 l.label) := kn 5 rfl
  have b6 : (w.alloc (.cells #[.int .i64 l.op, .int .i64 l.a, .int .i64 l.b, .int .i64 l.imm, .int .u32 l.n, .int .i64 l.label, .slice AL l.list.length cL] 49)).cell? ⟨w.heap.size, 6, none⟩ = some (.slice AL l.list.length cL) := kn 6 rfl
  have hb0 : Below w.heap.size w (w.alloc (.cells #[.int .i64 l.op, .int .i64 l.a, .int .i64 l.b, .int .i64 l.imm, .int .u32 l.n, .int .i64 l.label, .slice AL l.list.length cL] 49)) := (Below.refl _ _).alloc (Nat.le_refl _) _
  clear k0 k1 k2 k3 k4 k5 k6 q0
  have hbS : w.heap.size < (w.alloc (.cells #[.int .i64 l.op, .int .i64 l.a, .int .i64 l.b, .int .i64 l.imm, .int .u32 l.n, .int .i64 l.label, .slice AL l.list.length cL] 49)).heap.size := by rw [World.size_alloc]; omega
  generalize (w.alloc (.cells #[.int .i64 l.op, .int .i64 l.a, .int .i64 l.b, .int .i64 l.imm, .int .u32 l.n, .int .i64 l.label, .slice AL l.list.length cL] 49)) = W0 at b0 b4 b5 b6 hb0 hbS ⊢
  refine (instruction_any l _ _).mono ?_
  rintro e w1 ⟨rfl, hb1⟩
  replace b0 := kp hb1 b0
  replace b4 := kp hb1 b4
  replace b5 := kp hb1 b5
  replace b6 := kp hb1 b6
  have hS1 : w.heap.size < w1.heap.size := Nat.lt_of_lt_of_le hbS hb1.size
  replace hb0 := bj hb0 hb1
  clear hb1 hbS
  go_wp2_with fail
  have d0 : (w1.alloc (.cells #[.int .i64 l.op, .int .i64 l.a, .int .i64 l.b, .int .i64 l.imm] 99)).cell? ⟨w1.heap.size, 0, none⟩ = some (.int .i64 l.op) := kn 0 rfl
  have d1 : (w1.alloc (.cells #[.int .i64 l.op, .int .i64 l.a, .int .i64 l.b, .int .i64 l.imm] 99)).cell? ⟨w1.heap.size, 1, none⟩ = some (.int .i64 l.a) := kn 1 rfl
  have d2 : (w1.alloc (.cells #[.int .i64 l.op, .int .i64 l.a, .int .i64 l.b, .int .i64 l.imm] 99)).cell? ⟨w1.heap.size, 2, none⟩ = some (.int .i64 l.b) := kn 2 rfl
  have d3 : (w1.alloc (.cells #[.int .i64 l.op, .int .i64 l.a, .int .i64 l.b, .int .i64 l.imm] 99)).cell? ⟨w1.heap.size, 3, none⟩ = some (.int .i64 l.imm) := kn 3 rfl
  have z0 : (w1.alloc (.cells #[.int .i64 l.op, .int .i64 l.a, .int .i64 l.b, .int .i64 l.imm] 99)).frozen? ⟨w1.heap.size, 0, none⟩ = false := unfrozen_of_block (heap_alloc_new w1 _) 0
  have z3 : (w1.alloc (.cells #[.int .i64 l.op, .int .i64 l.a, .int .i64 l.b, .int .i64 l.imm] 99)).frozen? ⟨w1.heap.size, 3, none⟩ = false := unfrozen_of_block (heap_alloc_new w1 _) 3
  replace b0 := ka (.cells #[.int .i64 l.op, .int .i64 l.a, .int .i64 l.b, .int .i64 l.imm] 99) b0
  replace b4 := ka (.cells #[.int .i64 l.op, .int .i64 l.a, .int .i64 l.b, .int .i64 l.imm] 99) b4
  replace b5 := ka (.cells #[.int .i64 l.op, .int .i64 l.a, .int .i64 l.b, .int .i64 l.imm] 99) b5
  replace b6 := ka (.cells #[.int .i64 l.op, .int .i64 l.a, .int .i64 l.b, .int .i64 l.imm] 99) b6
  replace hb0 : Below w.heap.size w (w1.alloc (.cells #[.int .i64 l.op, .int .i64 l.a, .int .i64 l.b, .int .i64 l.imm] 99)) := bj hb0 ((Below.refl _ _).alloc (Nat.le_refl _) _)
  have hS2 : w1.heap.size < (w1.alloc (.cells #[.int .i64 l.op, .int .i64 l.a, .int .i64 l.b, .int .i64 l.imm] 99)).heap.size := by rw [World.size_alloc]; omega
  generalize w1.heap.size = S1 at *
  generalize (w1.alloc (.cells #[.int .i64 l.op, .int .i64 l.a, .int .i64 l.b, .int .i64 l.imm] 99)) = W at *
  clear W0 w1
  have HW := Lib.hid (HH.out.below hb0)
  have hlk := fun q => (HW.out.map.drewN q).look l.label hlbl
  have q1 := HW.out.c1
  have hto := HF.out l.label
  have htw : toW f l.label = (f l.label).getD 0 := rfl
  rw [← htw] at hlk
  have hwr : IntKind.u32.wrap (toW f l.label) = toW f l.label := u32_own 32 (by decide) _ hto.1 (by omega)
  clear htw
  go_quiet (fail)
  generalize hWx : W.drewN _ = W2
  have hb2 : Below W.heap.size W W2 := hWx ▸ bdnX W _
  have z0' := kpf hb2 d0 z0
  have z3' := kpf hb2 d3 z3
  replace b0 := kp hb2 b0
  replace b4 := kp hb2 b4
  replace b5 := kp hb2 b5
  replace b6 := kp hb2 b6
  replace d0 := kp hb2 d0
  replace d1 := kp hb2 d1
  replace d2 := kp hb2 d2
  replace d3 := kp hb2 d3
  replace hb0 := bj hb0 hb2
  have hS3 : S1 < W2.heap.size := Nat.lt_of_lt_of_le hS2 hb2.size
  have hB2 : B ≤ W2.heap.size := Nat.le_trans hB hb0.size
  have hwS : w.heap.size ≤ W2.heap.size := hb0.size
  have hhB : h < B := HO.out.hB
  have hgl : g < w.heap.size := (Array.getElem?_eq_some_iff.1 HH.out.blkG).1
  have hll : lb < w.heap.size := (Array.getElem?_eq_some_iff.1 HH.out.blkL).1
  have p2 := (HH.out.below hb0).c2
  have p3 := (HH.out.below hb0).cL i hi
  have HP := Lib.hid (show Only B h w W2 from (Only.refl B h w).below hb0 hB)
  have hi0 : (0 : Int) ≤ (i : Int) := Int.natCast_nonneg _
  have hi1 : (i : Int) < (n : Int) := by omega
  clear hWx hb2 hS2 z0 z3 HW hlk q1
  by_cases h0 : l.op = 0
  · have e1 := Lib.hid (show lineW f (long.getD i false) (places.getD i 0) l = [] by unfold lineW; rw [if_pos h0])
    have e2 := Lib.hid (show lineK (long.getD i false) l = [] by unfold lineK; rw [if_pos h0])
    go_wp2_with fail
    go_end0
    exact ⟨rfl, ⟨wv, kv, by rw [e1.out, e2.out, List.append_nil, List.append_nil]; exact HO.out.below hb0⟩, HP.out⟩
  replace h0 : (l.op == 0) = false := by simpa using h0
  have H0 := Lib.hid (show ¬ l.op = 0 by simpa using h0)
  by_cases hbr : brOp l.op = true
  · --DEV<
    cases hlg : long.getD i false with
    | false =>
      have e1 := Lib.hid (show lineW f false (places.getD i 0) l = [(enc l.op l.a l.b (toW f l.label - places.getD i 0 - 1)).1] by unfold lineW; rw [if_neg H0.out, if_pos ⟨hbr, rfl⟩])
      have e2 := Lib.hid (show lineK false l = [1] by unfold lineK; rw [if_neg H0.out, if_pos ⟨hbr, rfl⟩])
      rw [hlg] at p3
      have AW := Lib.hid (show Calls Tryz.prog 43 #[.pointer (some ⟨g, 0, none⟩), .int .i64 i] W2 fun e w' => e = .returned (.int .i64 (toW f l.label - places.getD i 0 - 1)) ∧ Below W2.heap.size W2 w' from
        away_any g mb pb W2 (some ad) n c n n ls i l (places.getD i 0) f hi (HH.out.below hb0).c0 (HH.out.below hb0).c1 (HH.out.below hb0).c3 (HLW.out.below hb0) HLI.out ((HH.out.below hb0).cP i hi) (HH.out.below hb0).map hlbl hp0 hp1 (HF.out l.label).1 (HF.out l.label).2)
      go_wp2_with (first | (go_at_call 42; refine (branch_any _ _).mono ?_; rintro e w' ⟨rfl, rfl⟩) | (go_at_call 83; refine (cond_any _ _).mono ?_; rintro e w' ⟨rfl, rfl⟩) | (go_at_call 81; refine (goes_any _ _).mono ?_; rintro e w' ⟨rfl, rfl⟩))
      refine AW.out.mono ?_
      rintro e w3 ⟨rfl, hb3⟩
      replace z3' := kpf hb3 d3 z3'
      replace d0 := kp hb3 d0
      replace d1 := kp hb3 d1
      replace d2 := kp hb3 d2
      replace d3 := kp hb3 d3
      have hb4 := (bj hb0 hb3).setCell (show w.heap.size ≤ (⟨S1, 3, none⟩ : Addr).block from Nat.le_of_lt hS1) (.int .i64 (toW f l.label - places.getD i 0 - 1))
      clear p2 p3 b0 b4 b5 b6 AW
      go_wp2_with fail
      trace_state
      refine (puts_any _ _ _ _ 0 [] _ B h ws ks pv r wv kv _ (HL.out.below hb4) (HO.out.below hb4) (Nat.le_trans hB hb4.size) (.inl ⟨rfl, rfl⟩) (by omega) (by omega) (by simp)).mono ?_
      rintro e w5 ⟨rfl, ⟨wv5, kv5, o5⟩, on5⟩
      have O5 := Lib.hid o5
      have P5 := Lib.hid (((Only.refl B h w).below hb4 hB).trans on5)
      clear o5 on5
      go_wp2_with fail
      go_end0
      exact ⟨rfl, ⟨wv5, kv5, by rw [hlg, e1.out, e2.out]; exact O5.out⟩, P5.out⟩
    | true =>
      rw [hlg] at p3
      by_cases hcb : isBr l.op = true
      · have hop : 0 ≤ l.op ∧ l.op ≤ 1000 := by
          unfold isBr within at hcb
          simp at hcb
          omega
        have e1 := Lib.hid (show lineW f true (places.getD i 0) l = [(enc (otherOp l.op) l.a l.b 2).1] ++ [(enc 41 0 0 0).1, toW f l.label] by unfold lineW; rw [if_neg H0.out, if_neg (by simp), if_pos hbr, if_pos hcb])
        have e2 := Lib.hid (show lineK true l = [1] ++ [1, 2] by unfold lineK; rw [if_neg H0.out, if_neg (by simp), if_pos hbr, if_pos hcb])
        have HOP := Lib.hid hop
        clear hop
        go_wp2_with (first | (go_at_call 42; refine (branch_any _ _).mono ?_; rintro e w' ⟨rfl, rfl⟩) | (go_at_call 83; refine (cond_any _ _).mono ?_; rintro e w' ⟨rfl, rfl⟩) | (go_at_call 81; refine (goes_any _ _).mono ?_; rintro e w' ⟨rfl, rfl⟩))
        refine (other_any _ _ HOP.out.1 HOP.out.2).mono ?_
        rintro e w' ⟨rfl, rfl⟩
        go_wp2_with fail
        have hb4 := (hb0.setCell (show w.heap.size ≤ (⟨S1, 0, none⟩ : Addr).block from Nat.le_of_lt hS1) (.int .i64 (otherOp l.op))).setCell (show w.heap.size ≤ (⟨S1, 3, none⟩ : Addr).block from Nat.le_of_lt hS1) (.int .i64 2)
        refine (puts_any _ _ _ _ 0 [] _ B h ws ks pv r wv kv _ (HL.out.below hb4) (HO.out.below hb4) (Nat.le_trans hB hb4.size) (.inl ⟨rfl, rfl⟩) (by omega) (by omega) (by simp)).mono ?_
        rintro e w5 ⟨rfl, ⟨wv5, kv5, o5⟩, on5⟩
        have O5 := Lib.hid o5
        have P5 := Lib.hid (((Only.refl B h w).below hb4 hB).trans on5)
        clear o5 on5
        go_wp2_with fail
        have hBw : B ≤ w5.heap.size := Nat.le_trans hB P5.out.size
        have L5 := HL.out.only P5.out hGB hh
        have hba := (Below.refl _ w5).alloc (Nat.le_refl _) (Obj.cells #[Value.int .u32 (toW f l.label)] 47)
        refine (puts_any _ _ _ _ 2 [toW f l.label] _ B h _ _ pv r wv5 kv5 _ (L5.below hba) (O5.out.below hba) (Nat.le_trans hBw hba.size) (data_one _ _ _ O5.out.wLt) (by simp; omega) (by simp; omega) (by simp)).mono ?_
        rintro e w6 ⟨rfl, ⟨wv6, kv6, o6⟩, on6⟩
        have O6 := Lib.hid o6
        have P6 := Lib.hid ((P5.out.below hba hB).trans on6)
        clear o6 on6
        go_wp2_with fail
        go_end0
        exact ⟨rfl, ⟨wv6, kv6, by rw [hlg, e1.out, e2.out, ← List.append_assoc, ← List.append_assoc]; exact O6.out⟩, P6.out⟩
      · replace hcb : isBr l.op = false := by simpa using hcb
        have e1 := Lib.hid (show lineW f true (places.getD i 0) l = [(enc 41 0 0 0).1, toW f l.label] by unfold lineW; rw [if_neg H0.out, if_neg (by simp), if_pos hbr, if_neg (by simp [hcb]), List.nil_append])
        have e2 := Lib.hid (show lineK true l = [1, 2] by unfold lineK; rw [if_neg H0.out, if_neg (by simp), if_pos hbr, if_neg (by simp [hcb]), List.nil_append])
        go_wp2_with (first | (go_at_call 42; refine (branch_any _ _).mono ?_; rintro e w' ⟨rfl, rfl⟩) | (go_at_call 83; refine (cond_any _ _).mono ?_; rintro e w' ⟨rfl, rfl⟩) | (go_at_call 81; refine (goes_any _ _).mono ?_; rintro e w' ⟨rfl, rfl⟩))
        have hba := (Below.refl _ W2).alloc (Nat.le_refl _) (Obj.cells #[Value.int .u32 (toW f l.label)] 47)
        refine (puts_any _ _ _ _ 2 [toW f l.label] _ B h ws ks pv r wv kv _ ((HL.out.below hb0).below hba) ((HO.out.below hb0).below hba) (Nat.le_trans hB2 hba.size) (data_one _ _ _ (HO.out.below hb0).wLt) (by omega) (by omega) (by simp)).mono ?_
        rintro e w6 ⟨rfl, ⟨wv6, kv6, o6⟩, on6⟩
        have O6 := Lib.hid o6
        have P6 := Lib.hid ((HP.out.below hba hB).trans on6)
        clear o6 on6
        go_wp2_with fail
        go_end0
        exact ⟨rfl, ⟨wv6, kv6, by rw [hlg, e1.out, e2.out]; exact O6.out⟩, P6.out⟩
    --DEV>
  replace hbr : brOp l.op = false := by simpa using hbr
  by_cases hgo : goOp l.op = true
  · have e1 := Lib.hid (show lineW f (long.getD i false) (places.getD i 0) l = [(enc l.op l.a l.b l.imm).1, toW f l.label] by unfold lineW; rw [if_neg H0.out, if_neg (by simp [hbr]), if_neg (by simp [hbr]), if_pos hgo])
    have e2 := Lib.hid (show lineK (long.getD i false) l = [1, 2] by unfold lineK; rw [if_neg H0.out, if_neg (by simp [hbr]), if_neg (by simp [hbr]), if_pos hgo])
    go_wp2_with (first | (go_at_call 42; refine (branch_any _ _).mono ?_; rintro e w' ⟨rfl, rfl⟩) | (go_at_call 83; refine (cond_any _ _).mono ?_; rintro e w' ⟨rfl, rfl⟩) | (go_at_call 81; refine (goes_any _ _).mono ?_; rintro e w' ⟨rfl, rfl⟩))
    have hba := (Below.refl _ W2).alloc (Nat.le_refl _) (Obj.cells #[Value.int .u32 (toW f l.label)] 47)
    refine (puts_any _ _ _ _ 2 [toW f l.label] _ B h ws ks pv r wv kv _ ((HL.out.below hb0).below hba) ((HO.out.below hb0).below hba) (Nat.le_trans hB2 hba.size) (data_one _ _ _ (HO.out.below hb0).wLt) (by omega) (by omega) (by simp)).mono ?_
    rintro e w6 ⟨rfl, ⟨wv6, kv6, o6⟩, on6⟩
    have O6 := Lib.hid o6
    have P6 := Lib.hid ((HP.out.below hba hB).trans on6)
    clear o6 on6
    go_wp2_with fail
    go_end0
    exact ⟨rfl, ⟨wv6, kv6, by rw [e1.out, e2.out]; exact O6.out⟩, P6.out⟩
  replace hgo : goOp l.op = false := by simpa using hgo
  by_cases h2 : l.op = 2
  · have e1 := Lib.hid (show lineW f (long.getD i false) (places.getD i 0) l = [(enc l.op l.a l.b l.imm).1, l.n] by unfold lineW; rw [if_neg H0.out, if_neg (by simp [hbr]), if_neg (by simp [hbr]), if_neg (by simp [hgo]), if_pos h2])
    have e2 := Lib.hid (show lineK (long.getD i false) l = [1, 2] by unfold lineK; rw [if_neg H0.out, if_neg (by simp [hbr]), if_neg (by simp [hbr]), if_neg (by simp [hgo]), if_pos h2])
    have h2' : (l.op == 2) = true := by simpa using h2
    clear h2
    go_wp2_with (first | (go_at_call 42; refine (branch_any _ _).mono ?_; rintro e w' ⟨rfl, rfl⟩) | (go_at_call 83; refine (cond_any _ _).mono ?_; rintro e w' ⟨rfl, rfl⟩) | (go_at_call 81; refine (goes_any _ _).mono ?_; rintro e w' ⟨rfl, rfl⟩))
    have hba := (Below.refl _ W2).alloc (Nat.le_refl _) (Obj.cells #[Value.int .u32 (l.n)] 47)
    refine (puts_any _ _ _ _ 2 [l.n] _ B h ws ks pv r wv kv _ ((HL.out.below hb0).below hba) ((HO.out.below hb0).below hba) (Nat.le_trans hB2 hba.size) (data_one _ _ _ (HO.out.below hb0).wLt) (by omega) (by omega) (by simp)).mono ?_
    rintro e w6 ⟨rfl, ⟨wv6, kv6, o6⟩, on6⟩
    have O6 := Lib.hid o6
    have P6 := Lib.hid ((HP.out.below hba hB).trans on6)
    clear o6 on6
    go_wp2_with fail
    go_end0
    exact ⟨rfl, ⟨wv6, kv6, by rw [e1.out, e2.out]; exact O6.out⟩, P6.out⟩
  have H2 := Lib.hid h2
  replace h2 : (l.op == 2) = false := by simpa using h2
  by_cases h42 : l.op = 42
  · have e1 := Lib.hid (show lineW f (long.getD i false) (places.getD i 0) l = (enc l.op l.a l.b l.imm).1 :: (l.list.length : Int) :: l.list.map (toW f) by unfold lineW; rw [if_neg H0.out, if_neg (by simp [hbr]), if_neg (by simp [hbr]), if_neg (by simp [hgo]), if_neg H2.out, if_pos h42])
    have e2 := Lib.hid (show lineK (long.getD i false) l = 1 :: 3 :: l.list.map (fun _ => 3) by unfold lineK; rw [if_neg H0.out, if_neg (by simp [hbr]), if_neg (by simp [hbr]), if_neg (by simp [hgo]), if_neg H2.out, if_pos h42])
    replace h42 : (l.op == 42) = true := by simpa using h42
    have hlw : IntKind.u32.wrap (l.list.length : Int) = (l.list.length : Int) := u32_own 32 (by decide) _ (Int.natCast_nonneg _) (by omega)
    have b6a := ka (.cells #[.int .u32 (l.list.length : Int)] 47) b6
    go_wp2_with (first | (go_at_call 42; refine (branch_any _ _).mono ?_; rintro e w' ⟨rfl, rfl⟩) | (go_at_call 83; refine (cond_any _ _).mono ?_; rintro e w' ⟨rfl, rfl⟩) | (go_at_call 81; refine (goes_any _ _).mono ?_; rintro e w' ⟨rfl, rfl⟩))
    --HERE
    have how0 := World.ownsRow_lit (base := W2.heap.size) (e := 47) (size := 1) W2 #[Value.int .u32 (l.list.length : Int)] 1 (Nat.le_refl _) (by decide) rfl
    have hbl := (Below.refl _ W2).alloc (Nat.le_refl _) (Obj.cells #[Value.int .u32 (l.list.length : Int)] 47)
    have HOW0 := Lib.hid how0
    have HBL := Lib.hid hbl
    have K6 := Lib.hid (fun W3 (hb : Below W2.heap.size W2 W3) => kp hb b6)
    have D0 := Lib.hid (fun W3 (hb : Below W2.heap.size W2 W3) => kp hb d0)
    have D1 := Lib.hid (fun W3 (hb : Below W2.heap.size W2 W3) => kp hb d1)
    have D2 := Lib.hid (fun W3 (hb : Below W2.heap.size W2 W3) => kp hb d2)
    have D3 := Lib.hid (fun W3 (hb : Below W2.heap.size W2 W3) => kp hb d3)
    clear how0 hbl b6a b0 b4 b5 b6 d0 d1 d2 d3 z0' z3' p2 p3
    generalize (W2.alloc (Obj.cells #[Value.int .u32 (l.list.length : Int)] 47)) = W3 at HOW0 HBL ⊢
    have b6 := K6.out W3 HBL.out
    go_loopw [9, 108] (fun s9 s wr => ∃ j gd cap : Nat, j ≤ l.list.length ∧ s = .int .i64 j ∧ s9 = .slice (some ⟨gd, 0, none⟩) (1 + j) cap ∧
      Hid (wr.ownsRow W2.heap.size 47 1 (.slice (some ⟨gd, 0, none⟩) (1 + j) cap) (1 + j) (((l.list.length : Int) :: (l.list.take j).map (toW f)).map (Value.int .u32))) ∧ Hid (Below W2.heap.size W2 wr)) (fun _ s _ => l.list.length - (intOf s).toNat)
    case atStart => exact ⟨0, W2.heap.size, 1, Nat.zero_le _, rfl, rfl, HOW0, HBL⟩
    case round =>
      obtain ⟨j, gd, cap, hj, rfl, rfl, HOW, HBr⟩ := hrel
      clear HOW0 HBL b6
      have hDw := HBr.out.size
      by_cases hlt : j < l.list.length
      · obtain ⟨ai, x, hA, hxj, hx⟩ := ((HV.out.below hb0).below HBr.out).at_ j hlt
        subst hA
        have hxm : x ∈ l.list := List.mem_of_getElem? hxj
        have HXJ := Lib.hid (show l.list.take (j + 1) = l.list.take j ++ [x] by rw [List.take_add_one, hxj]; rfl)
        have hlk := ((HH.out.below hb0).below HBr.out).map.look x (hlab x hxm)
        have hxt : toW f x = (f x).getD 0 := rfl
        rw [← hxt] at hlk
        have q1 := ((HH.out.below hb0).below HBr.out).c1
        have hto := HF.out x
        have hwr2 : IntKind.u32.wrap (toW f x) = toW f x := u32_own 32 (by decide) _ hto.1 (by omega)
        clear hxj hxt hxm
        have hi0 : (0 : Int) ≤ (j : Int) := Int.natCast_nonneg _
        go_wp2_with (at_builtin; refine ap_list 34 47 (k := .u32) (bytes := 4) Tryz.underlying34 (by kernel_rfl) (by decide) rfl (.tmp 112) (.tmp 120) rfl W2.heap.size _ (1 + j) _ rfl (pw_own_below HOW.out ((Below.refl _ _).alloc (Nat.le_refl _) _)) ⟨wr.heap.size, 0, none⟩ 1 1 [toW f x] rfl rfl (one_new _ _ _ _) (by decide) (by omega) (by rw [World.size_alloc]; omega) ?_; intro g1 cap1 w2 hown1 hg1 hat1 hlt1)
        have hbn : Below W2.heap.size W2 w2 := (HBr.out.alloc hDw (Obj.cells #[Value.int .u32 (toW f x)] 47)).grown hg1 (by rw [World.size_alloc]; omega) (fun k hk => own_base (pw_own_below HOW.out ((Below.refl _ _).alloc (Nat.le_refl _) (Obj.cells #[Value.int .u32 (toW f x)] 47))) k hk)
        have HN := Lib.hid hbn
        have HOWN : Hid (w2.ownsRow W2.heap.size 47 1 (.slice (some ⟨g1, 0, none⟩) (1 + (j + 1)) cap1) (1 + (j + 1)) (((l.list.length : Int) :: (l.list.take (j + 1)).map (toW f)).map (Value.int .u32))) := Lib.hid (by
          rw [HXJ.out, List.map_append, ← List.cons_append, ← Nat.add_assoc]
          exact hown1)
        exact ⟨⟨j + 1, g1, cap1, by omega, by go_num, by rw [Nat.add_assoc], HOWN, HN⟩, by simp [intOf]; omega⟩
      · have hjl : j = l.list.length := by omega
        subst hjl
        have d0 := D0.out wr HBr.out
        have d1 := D1.out wr HBr.out
        have d2 := D2.out wr HBr.out
        have d3 := D3.out wr HBr.out
        have hbw : Below w.heap.size w wr := bj hb0 HBr.out
        have hdv : DataAt wr wv.ownBlock (.slice (some ⟨gd, 0, none⟩) (1 + l.list.length) cap) ((l.list.length : Int) :: l.list.map (toW f)) := by
          have hgd := own_base HOW.out gd rfl
          refine .inr ⟨⟨gd, 0, none⟩, cap, by simp; omega, by simp, ?_, ?_, ?_⟩
          · intro j u hu
            have ho := HOW.out
            rw [List.take_length] at ho
            have hadd : (⟨gd, 0, none⟩ : Addr).add j = ⟨gd, j, none⟩ := by unfold Addr.add; split <;> simp_all
            rw [hadd, ho.cellAt j (by
              have := (List.getElem?_eq_some_iff.1 hu).1
              simp at this
              omega)]
            exact hu
          · exact own_lt HOW.out gd rfl
          · intro e
            have := (HO.out.below hb0).wLt gd e
            omega
        have HDV := Lib.hid hdv
        clear hdv HOW
        go_wp2_with fail
        refine (puts_any _ _ _ _ 3 ((l.list.length : Int) :: l.list.map (toW f)) _ B h ws ks pv r wv kv _ (HL.out.below hbw) (HO.out.below hbw) (Nat.le_trans hB hbw.size) HDV.out (by omega) (by omega) (by simp; omega)).mono ?_
        rintro e w6 ⟨rfl, ⟨wv6, kv6, o6⟩, on6⟩
        have HK := Lib.hid (show ks ++ 1 :: 3 :: l.list.map (fun _ => (3 : Int)) = ks ++ 1 :: List.replicate ((l.list.length : Int) :: l.list.map (toW f)).length 3 by rw [mapc]; simp [List.replicate_succ])
        have O6 := Lib.hid o6
        have P6 := Lib.hid (((Only.refl B h w).below hbw hB).trans on6)
        clear o6 on6
        go_wp2_with fail
        go_end0
        exact ⟨rfl, ⟨wv6, kv6, by rw [e1.out, e2.out, HK.out]; exact O6.out⟩, P6.out⟩
  have H42 := Lib.hid h42
  replace h42 : (l.op == 42) = false := by simpa using h42
  have e1 := Lib.hid (show lineW f (long.getD i false) (places.getD i 0) l = [(enc l.op l.a l.b l.imm).1] by unfold lineW; rw [if_neg H0.out, if_neg (by simp [hbr]), if_neg (by simp [hbr]), if_neg (by simp [hgo]), if_neg H2.out, if_neg H42.out])
  have e2 := Lib.hid (show lineK (long.getD i false) l = [1] by unfold lineK; rw [if_neg H0.out, if_neg (by simp [hbr]), if_neg (by simp [hbr]), if_neg (by simp [hgo]), if_neg H2.out, if_neg H42.out])
  go_wp2_with (first | (go_at_call 42; refine (branch_any _ _).mono ?_; rintro e w' ⟨rfl, rfl⟩) | (go_at_call 83; refine (cond_any _ _).mono ?_; rintro e w' ⟨rfl, rfl⟩) | (go_at_call 81; refine (goes_any _ _).mono ?_; rintro e w' ⟨rfl, rfl⟩))
  refine (puts_any _ _ _ _ 0 [] _ B h ws ks pv r wv kv _ (HL.out.below hb0) (HO.out.below hb0) hB2 (.inl ⟨rfl, rfl⟩) (by omega) (by omega) (by simp)).mono ?_
  rintro e w6 ⟨rfl, ⟨wv6, kv6, o6⟩, on6⟩
  have O6 := Lib.hid o6
  have P6 := Lib.hid (HP.out.trans on6)
  clear o6 on6
  go_wp2_with fail
  go_end0
  exact ⟨rfl, ⟨wv6, kv6, by rw [e1.out, e2.out]; exact O6.out⟩, P6.out⟩

end Go.Proofs.YtlhgfhmdhmgmpaaGreatDoor
