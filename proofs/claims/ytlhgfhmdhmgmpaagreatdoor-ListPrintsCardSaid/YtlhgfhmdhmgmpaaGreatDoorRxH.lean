/- relax's assembler: all places are worked out. -/
import Derived.Test.YtlhgfhmdhmgmpaaGreatDoorRxG
import Derived.Deep.RegionWith
import Derived.BigRegion
namespace Go.Proofs.YtlhgfhmdhmgmpaaGreatDoor
open Go.RowKit Go.Proofs.YtlhgfhmdhmgmpaaGreatDoorW.PrintWords Go.Maps Go.Joins

theorem ks {w : World} {p q : Addr} {v u : Value} (h : w.cell? p = some v) (hne : p.block ≠ q.block) : (w.setCell q u).cell? p = some v := by
  rw [← h]
  unfold World.cell?
  rw [Below.heap_setCell w q u p.block hne]

/-- A list that may be, as far as the places' sizes go. -/
structure Sized (ls : List Line) : Prop where
  small : ls.length ≤ 60000
  lists : ∀ l ∈ ls, l.list.length ≤ 400
  labels : ∀ l ∈ ls, (Lit.int .i64 l.label).wf = true

theorem sizeP_range (l : Line) (lg : Bool) (h : l.list.length ≤ 400) : 0 ≤ sizeP l lg ∧ sizeP l lg ≤ 402 := by
  unfold sizeP
  have := follows_range l.op
  repeat' split
  all_goals omega

theorem pl_range (ls : List Line) (long : List Bool) (h : Sized ls) (k : Nat) : 0 ≤ pl ls long k ∧ pl ls long k ≤ 402 * k := by
  induction k with
  | zero => exact ⟨Int.le_refl _, by simp [pl]⟩
  | succ k ih =>
    have : (ls.getD k default).list.length ≤ 400 := by
      by_cases hk : k < ls.length
      · rw [List.getD_eq_getElem?_getD, List.getElem?_eq_getElem hk]
        exact h.lists _ (List.getElem_mem hk)
      · rw [List.getD_eq_getElem?_getD, List.getElem?_eq_none (by omega)]
        exact Nat.zero_le _
    have := sizeP_range (ls.getD k default) (long.getD k false) this
    simp only [pl]
    omega

def plK (ls : List Line) (long : List Bool) (places : List Int) (k : Nat) : List Int := (List.range k).map (pl ls long) ++ places.drop k

theorem plK_set (ls : List Line) (long : List Bool) (places : List Int) (k : Nat) (hk : k < places.length) : (plK ls long places k).set k (pl ls long k) = plK ls long places (k + 1) := by
  unfold plK
  have e : (places.drop k).set 0 (pl ls long k) = pl ls long k :: places.drop (k + 1) := by
    rw [List.drop_eq_getElem_cons hk]
    rfl
  have hl : ((List.range k).map (pl ls long)).length = k := by simp
  rw [List.set_append_right _ _ (by omega), hl, Nat.sub_self, e, List.range_succ, List.map_append, List.append_assoc]
  rfl

theorem mp_has (ls : List Line) (long : List Bool) (f : Int → Option Int) (k : Nat) (x : Int) (h : (f x).isSome = true) : (mp ls long f k x).isSome = true := by
  induction k with
  | zero => exact h
  | succ k ih =>
    simp only [mp]
    by_cases h1 : (ls.getD k default).op = 0
    · rw [if_pos h1]
      by_cases h2 : x = (ls.getD k default).label
      · simp only [if_pos h2]
        rfl
      · simp only [if_neg h2]
        exact ih
    · rw [if_neg h1]
      exact ih

set_option maxRecDepth 100000 in
set_option maxHeartbeats 4000000 in
theorem laid_any (w0 w9 w : World) (g mb lb pb : Nat) (A : Option Addr) (n c : Nat) (ls : List Line) (long : List Bool) (places : List Int) (words : Int) (f : Int → Option Int)
    (h : LI w0 w9 w g mb lb pb A n c long places words f) (hl : Lines w0 (.slice A n c) ls) (hs : Sized ls) (hf : ∀ l ∈ ls, l.op = 0 → (f l.label).isSome = true) :
    Calls Tryz.prog 41 #[.pointer (some ⟨g, 0, none⟩)] w fun e w' => e = .returned (.tuple #[]) ∧ LI w0 w9 w' g mb lb pb A n c long ((List.range n).map (pl ls long)) (pl ls long n) (mp ls long f n) := by
  have hn := hl.len
  have hn6 := hs.small
  have HS := Lib.hid hs
  have HF := Lib.hid hf
  have HL := Lib.hid hl
  have q4 := h.c4
  have q0 := h.c0
  have z4 := h.f4
  have H1 := Lib.hid (h.setWords 0)
  clear h hl hs hf
  go_enter Tryz.func41, Tryz.ntmps41
  go_wp2_with fail
  go_loopw [12] (fun s wr => ∃ k : Nat, k ≤ n ∧ s = .int .i64 k ∧ Hid (LI w0 w9 wr g mb lb pb A n c long (plK ls long places k) (pl ls long k) (mp ls long f k))) (fun s _ => n - (intOf s).toNat)
  case atStart => exact ⟨0, Nat.zero_le _, rfl, H1⟩
  case round =>
    obtain ⟨k, hk, rfl, hX⟩ := hrel
    clear q4 q0 z4 H1
    by_cases hlt : k < n
    · obtain ⟨ad, l, v, hA, hli, hat, hv⟩ := (HL.out.below hX.out.bel).at_ k hlt
      obtain ⟨AL, cL, rfl, hr⟩ := hv
      clear hr
      have hat' : LineAt wr (ad.add (k * 7)) l (.slice AL l.list.length cL) := hat
      obtain ⟨k0, k1, k2, k3, k4, k5, k6⟩ := hat
      have hget : ls.getD k default = l := by rw [List.getD_eq_getElem?_getD, hli]; rfl
      have HG := Lib.hid hget
      have HI := Lib.hid hli
      clear hget hli hat'
      subst hA
      have q0 := hX.out.c0
      go_wp2_with fail
      have hbx : Below wr.heap.size wr (wr.alloc (.cells #[.int .i64 l.op, .int .i64 l.a, .int .i64 l.b, .int .i64 l.imm, .int .u32 l.n, .int .i64 l.label, .slice AL l.list.length cL] 49)) := (Below.refl _ _).alloc (Nat.le_refl _) _
      have hX1 := Lib.hid (hX.out.below hbx)
      have b0 : (wr.alloc (.cells #[.int .i64 l.op, .int .i64 l.a, .int .i64 l.b, .int .i64 l.imm, .int .u32 l.n, .int .i64 l.label, .slice AL l.list.length cL] 49)).cell? ⟨wr.heap.size, 0, none⟩ = some (.int .i64 l.op) := kn 0 rfl
      have b5 : (wr.alloc (.cells #[.int .i64 l.op, .int .i64 l.a, .int .i64 l.b, .int .i64 l.imm, .int .u32 l.n, .int .i64 l.label, .slice AL l.list.length cL] 49)).cell? ⟨wr.heap.size, 5, none⟩ = some (.int .i64 l.label) := kn 5 rfl
      have hgl : g < wr.heap.size := (Array.getElem?_eq_some_iff.1 hX.out.blkG).1
      have hpl : pb < wr.heap.size := (Array.getElem?_eq_some_iff.1 hX.out.blkP).1
      have hll : lb < wr.heap.size := (Array.getElem?_eq_some_iff.1 hX.out.blkL).1
      clear k0 k1 k2 k3 k4 k5 k6 q0
      generalize (wr.alloc (.cells #[.int .i64 l.op, .int .i64 l.a, .int .i64 l.b, .int .i64 l.imm, .int .u32 l.n, .int .i64 l.label, .slice AL l.list.length cL] 49)) = W1 at hX1 b0 b5 hbx ⊢
      have p3 := hX1.out.c3
      have p4 := hX1.out.c4
      have pP := hX1.out.cP k hlt
      have pF := hX1.out.fP k
      have hi0 : (0 : Int) ≤ (k : Int) := Int.natCast_nonneg _
      have hi1 : (k : Int) < (n : Int) := by omega
      go_region
      have hX2 := hX1.out.setPlace k (pl ls long k)
      rw [plK_set _ _ _ _ (by have := hX1.out.np; simp [plK] at this; omega)] at hX2
      replace hX2 := Lib.hid hX2.drew
      replace b0 := ks (q := ⟨pb, k, none⟩) (u := .int .i64 (pl ls long k)) b0 (by simp; omega)
      replace b5 := ks (q := ⟨pb, k, none⟩) (u := .int .i64 (pl ls long k)) b5 (by simp; omega)
      have hsz : wr.heap.size ≤ ((W1.setCell ⟨pb, k, none⟩ (.int .i64 (pl ls long k))).drew).heap.size := by rw [World.size_drew, World.size_setCell]; exact hbx.size
      replace b0 : ((W1.setCell ⟨pb, k, none⟩ (.int .i64 (pl ls long k))).drew).cell? ⟨wr.heap.size, 0, none⟩ = some (.int .i64 l.op) := b0
      replace b5 : ((W1.setCell ⟨pb, k, none⟩ (.int .i64 (pl ls long k))).drew).cell? ⟨wr.heap.size, 5, none⟩ = some (.int .i64 l.label) := b5
      clear hX1 p3 p4 pP pF hX hbx
      generalize ((W1.setCell ⟨pb, k, none⟩ (.int .i64 (pl ls long k))).drew) = W2 at hX2 b0 b5 hsz ⊢
      go_upto_if 29 with fail
      go_cut [29] (fun s29 wc => (∃ x, s29 = x) ∧ Hid (LI w0 w9 wc g mb lb pb (some ad) n c long (plK ls long places (k + 1)) (pl ls long k) (mp ls long f (k + 1))))
      case first =>
        have hmp : mp ls long f (k + 1) = if l.op = 0 then (fun x => if x = l.label then some (pl ls long k) else mp ls long f k x) else mp ls long f k := by
          simp only [mp, HG.out]
        have HMP := Lib.hid hmp
        clear hmp
        have q1 := hX2.out.c1
        have q4 := hX2.out.c4
        have hmem : l ∈ ls := List.mem_of_getElem? HI.out
        have hpr := pl_range ls long HS.out k
        have hwf : (Lit.int .i64 (pl ls long k)).wf = true := WalkArith.wf_i64 (by omega)
        have hold : l.op = 0 → (mp ls long f k l.label).isSome = true := fun hz => mp_has ls long f k _ (HF.out l hmem hz)
        have HOLD := Lib.hid hold
        have HLW := Lib.hid (HS.out.labels l hmem)
        clear hold hmem
        go_wp2_with fail
        · have hz : (l.op == 0) = true := by assumption
          have hz' : l.op = 0 := by simpa using hz
          obtain ⟨W3, hst, hM3, hg3⟩ := hX2.out.drew.map.store_old l.label (pl ls long k) HLW.out hwf (by unfold maxLen; omega) (HOLD.out hz')
          have hX3 := hX2.out.drew.setMap hM3 hg3
          have HX3 := Lib.hid hX3
          have HMP2 := Lib.hid (show mp ls long f (k + 1) = (fun x => if x = l.label then some (pl ls long k) else mp ls long f k x) by rw [HMP.out, if_pos hz'])
          clear hM3 hg3 hX3 hz'
          go_region
          go_wp2_with fail
          go_meet
          exact ⟨⟨_, rfl⟩, Lib.hid (by rw [HMP2.out]; exact HX3.out)⟩
        · have hz : (l.op == 0) = false := by assumption
          have hz' : ¬ l.op = 0 := by simpa using hz
          have HMP2 := Lib.hid (show mp ls long f (k + 1) = mp ls long f k by rw [HMP.out, if_neg hz'])
          clear hz'
          go_meet
          exact ⟨⟨_, rfl⟩, Lib.hid (by rw [HMP2.out]; exact hX2.out)⟩
      case rest =>
        obtain ⟨⟨s29, rfl⟩, hX3⟩ := hcut
        have q4 := hX3.out.c4
        have z4 := hX3.out.f4
        have hpr := pl_range ls long HS.out k
        have hls : l.list.length ≤ 400 := HS.out.lists l (List.mem_of_getElem? HI.out)
        have hsr := sizeP_range l (long.getD k false) hls
        have hpk : pl ls long (k + 1) = pl ls long k + sizeP l (long.getD k false) := by simp only [pl, HG.out]
        have hC := fun W' (hb : Below wc.heap.size wc W') => size_any g lb W' (some ad) n c n ls k l (long.getD k false) hlt (by omega) (hX3.out.below hb).c0 (hX3.out.below hb).c2 (HL.out.below (hX3.out.below hb).bel) HI.out ((hX3.out.below hb).cL k hlt) hls
        generalize long.getD k false = lg at hC hsr hpk
        generalize sizeP l lg = sz at hC hsr hpk
        have hwr : IntKind.i64.wrap (pl ls long k + sz) = pl ls long k + sz := IntWalk.i64_in _ (by omega)
        have HPK := Lib.hid hpk
        have HC := Lib.hid hC
        clear hC hls hpk
        go_upto_region 7 with fail
        go_region_with (go_at_call 82; refine (HC.out _ (by go_grown)).mono ?_; rintro e w' ⟨rfl, hb'⟩; have q4' := kp hb' q4; have z4' := kpf hb' q4 z4)
        all_goals
          have hX5 := Lib.hid ((hX3.out.drew.below hb').setWords (pl ls long k + sz))
          clear q4' z4' q4 z4 hb'
          go_wp2_with fail
          go_roundw
          case rel => exact ⟨k + 1, by omega, by go_num, Lib.hid (by rw [HPK.out]; exact hX5.out)⟩
          case measure => simp [intOf]; omega
    · have hkn : k = n := by omega
      subst hkn
      have hX2 := hX.out
      have hpl2 : plK ls long places k = (List.range k).map (pl ls long) := by
        unfold plK
        have := hX2.np
        simp [plK] at this
        rw [List.drop_of_length_le (by omega), List.append_nil]
      rw [hpl2] at hX2
      have HX2 := Lib.hid hX2
      clear hX hX2 hpl2
      go_wp2_with fail
      go_end0
      exact ⟨rfl, HX2.out⟩

end Go.Proofs.YtlhgfhmdhmgmpaaGreatDoor
