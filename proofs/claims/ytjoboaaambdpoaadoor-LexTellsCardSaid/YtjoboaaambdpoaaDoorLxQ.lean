/- lex's scanner: skip: walked. -/
import Derived.Test.YtjoboaaambdpoaaDoorLxO
set_option linter.unusedVariables false
set_option linter.unusedSimpArgs false
namespace Go.Proofs.YtjoboaaambdpoaaDoor
open Go.RowKit Go.Proofs.YtjoboaaambdpoaaDoorW.PrintWords Go.Maps Go.Joins

theorem peek_draw (g : Nat) (src : ByteArray) (i n : Nat) (sl : Value) (w : World) (h : Sc w g src i sl) (hs : src.size ≤ 1000000) (hi : i ≤ src.size) (hn : n ≤ 10) :
    Calls Tryd.prog 23 #[.pointer (some ⟨g, 0, none⟩), .int .i64 n] w fun e w' => e = .returned (.int .u8 (bz src ((i : Int) + (n : Int)))) ∧ ∃ m, w' = w.drewN m := by
  have k0 := h.c0
  have k1 := h.c1
  clear h
  obtain ⟨j, hj⟩ : ∃ j : Int, j = (i : Int) + (n : Int) := ⟨_, rfl⟩
  have hw : IntKind.i64.wrap ((i : Int) + (n : Int)) = j := by rw [hj]; exact IntWalk.i64_in _ (by omega)
  rw [← hj]
  have hj0 : 0 ≤ j := by omega
  by_cases hl : j < (src.size : Int)
  · have hx := bt_at src j
    have p6 := eq_true hj0
    have q6 := eq_true hl
    clear hj
    go_enter Tryd.func23, Tryd.ntmps23
    go_wp2
    repeat (go_quiet (fail); try go_wp2)
    go_ret
    exact ⟨by first | rfl | (simp [*]; done), ⟨_, by rw [World.drewN_drewN]⟩⟩
  · have hz : bz src j = 0 := by
      unfold bz Go.Proofs.YtjoboaaambdpoaaDoorW.PrintWords.bt
      rw [dif_neg (by omega)]
    rw [hz]
    clear hj
    go_enter Tryd.func23, Tryd.ntmps23
    go_wp2
    repeat (go_quiet (fail); try go_wp2)
    go_ret
    exact ⟨by first | rfl | (simp [*]; done), ⟨_, rfl⟩⟩

def blank (c : Int) : Bool := decide (c = 32) || (decide (9 ≤ c) && decide (c ≤ 13))

/-- Blanks and comments passed over: done, and where. -/
def skipF (src : ByteArray) : Nat → Nat → Bool × Nat
  | 0, i => (true, i)
  | f + 1, i =>
    if i < src.size then
      if blank (bz src i) = true then skipF src f (i + 1)
      else if bz src i = 47 ∧ bz src ((i : Int) + 1) = 47 then
        if 0 ≤ Lib.indexByte (src.data.toList.drop i) 10 then skipF src f (i + (Lib.indexByte (src.data.toList.drop i) 10).toNat) else skipF src f src.size
      else if bz src i = 47 ∧ bz src ((i : Int) + 1) = 42 then
        if Lib.index (src.data.toList.drop (i + 2)) [42, 47] < 0 then (false, i) else skipF src f (i + (Lib.index (src.data.toList.drop (i + 2)) [42, 47]).toNat + 4)
      else (true, i)
    else (true, i)

def posOf (g : Nat) (w : World) : Nat := match w.cell? ⟨g, 1, none⟩ with
  | some (.int _ i) => i.toNat
  | _ => 0

theorem posOf_sc {w : World} {g : Nat} {src : ByteArray} {i : Nat} {sl : Value} (h : Sc w g src i sl) : posOf g w = i := by
  unfold posOf
  rw [h.c1]
  simp

theorem indexByte_lt : ∀ (l : List UInt8) (c : UInt8), Lib.indexByte l c < l.length ∨ l = []
  | [], _ => .inr rfl
  | b :: l, c => by
    left
    rw [Lib.indexByte]
    have h := indexByte_lt l c
    rw [List.length_cons]
    split
    · omega
    · split
      · omega
      · rename_i hne
        rcases h with h | rfl
        · omega
        · exact absurd rfl hne

theorem index_le : ∀ (l s : List UInt8), Lib.index l s + s.length ≤ l.length ∨ Lib.index l s = -1
  | [], s => by
    unfold Lib.index
    cases s with
    | nil => left; simp
    | cons a b => right; rfl
  | b :: l, s => by
    rw [Lib.index]
    have h := index_le l s
    rw [List.length_cons]
    split
    · rename_i hp
      left
      have := (List.isPrefixOf_iff_prefix.1 hp).length_le
      rw [List.length_cons] at this
      omega
    · split
      · right; rfl
      · rename_i hne
        left
        rcases h with h | h
        · omega
        · exact absurd (by rw [h]; rfl) hne

theorem indexByte_pos (a c : UInt8) (r : List UInt8) (h : a ≠ c) (h0 : 0 ≤ Lib.indexByte (a :: r) c) : 1 ≤ Lib.indexByte (a :: r) c := by
  rw [Lib.indexByte, if_neg (by simpa using h)] at h0 ⊢
  have := Lib.indexByte_ge r c
  split at h0
  · omega
  · rename_i hne
    rw [if_neg hne]
    have : Lib.indexByte r c ≠ -1 := by simpa using hne
    omega

theorem ext_size (D : ByteArray) (n : Nat) : (D.extract n D.size).size = D.size - n := by
  rw [show (D.extract n D.size).size = (D.extract n D.size).data.toList.length from Array.length_toList.symm, ext_drop, List.length_drop, Array.length_toList]
  rfl

theorem Sc.setTo {w : World} {g : Nat} {src : ByteArray} {i : Int} {sl : Value} (h : Sc w g src i sl) (x : Int) (y : Nat) (e : x = (y : Int)) : Sc (w.setCell ⟨g, 1, none⟩ (.int .i64 x)) g src (y : Int) sl := by
  subst e
  exact h.set1 _

theorem meas {w w' : World} {g : Nat} {src : ByteArray} {k k' : Nat} {sl : Value} (h : Sc w g src k sl) (h' : Sc w' g src k' sl) (hk : k < k') (hl : k < src.size) : src.size - posOf g w' < src.size - posOf g w := by
  rw [posOf_sc h, posOf_sc h']
  omega

set_option maxRecDepth 100000 in
set_option maxHeartbeats 4000000 in
theorem skip_any (g : Nat) (src : ByteArray) (i : Nat) (sl : Value) (w0 w : World) (h : Sc w g src i sl) (hs : src.size ≤ 1000000) (hi : i ≤ src.size) (hb : Below w0.heap.size w0 w) (hg : w0.heap.size ≤ g) (hL : Laid w0) :
    Calls Tryd.prog 18 #[.pointer (some ⟨g, 0, none⟩)] w fun e w' => e = .returned (.bool (skipF src (src.size - i + 1) i).1) ∧ Sc w' g src ((skipF src (src.size - i + 1) i).2 : Nat) sl ∧ (skipF src (src.size - i + 1) i).2 ≤ src.size ∧ Below w0.heap.size w0 w' ∧ KeepBut w w' g none := by
  have H := Lib.hid h
  have HB := Lib.hid hb
  have HL := Lib.hid hL
  clear h hb hL
  obtain ⟨R, hR⟩ : ∃ R, R = skipF src (src.size - i + 1) i := ⟨_, rfl⟩
  rw [← hR]
  have HR := Lib.hid hR
  clear hR
  go_enter Tryd.func18, Tryd.ntmps18
  go_wp2_with fail
  go_loopw [3] (fun s wr => ∃ f k : Nat, k ≤ src.size ∧ src.size - k < f ∧ (∃ x, s = x) ∧ Hid (R = skipF src f k) ∧ Hid (Sc wr g src k sl) ∧ Hid (Below w0.heap.size w0 wr) ∧ Hid (KeepBut w wr g none)) (fun _ wr => src.size - posOf g wr)
  case atStart => exact ⟨src.size - i + 1, i, hi, by omega, ⟨_, rfl⟩, HR, H, HB, Lib.hid (KeepBut.refl _ _ _)⟩
  case round =>
    obtain ⟨f, k, hk, hf, ⟨x, rfl⟩, hh, hS, hB, hK⟩ := hrel
    have k0 := hS.out.c0
    have k1 := hS.out.c1
    have f1 := hS.out.f1
    obtain ⟨f, rfl⟩ : ∃ f', f = f' + 1 := ⟨f - 1, by omega⟩
    have hj0 : (0 : Int) ≤ (k : Int) := Int.natCast_nonneg _
    by_cases hl : k < src.size
    · have hlj : (k : Int) < (src.size : Int) := by omega
      have hx := bt_at src (k : Int)
      have p6 := eq_true hj0
      have q6 := eq_true hlj
      obtain ⟨j, hj⟩ : ∃ j : Int, j = (k : Int) := ⟨_, rfl⟩
      have hjt : j.toNat = k := by omega
      rw [← hj] at k1 hx p6 q6 hlj hj0
      obtain ⟨x, hxd⟩ : ∃ x, x = bz src j := ⟨_, rfl⟩
      have hx1 : ∀ h : j.toNat < src.size, ((src[j.toNat]'h).toNat : Int) = x := fun h => by rw [hx h, hxd]
      obtain ⟨p, hp⟩ : ∃ p, p = bz src ((k : Int) + 1) := ⟨_, rfl⟩
      have PK := Lib.hid (fun W (h : Sc W g src k sl) => show Calls Tryd.prog 23 #[.pointer (some ⟨g, 0, none⟩), .int .i64 1] W fun e w' => e = .returned (.int .u8 p) ∧ ∃ m, w' = W.drewN m from by rw [hp]; exact peek_draw g src k 1 sl W h hs hk (by decide))
      have hst := hh.out
      rw [skipF, if_pos hl, ← hp, ← hj, ← hxd] at hst
      have HS := Lib.hid hst
      have hw1 : IntKind.i64.wrap (j + 1) = j + 1 := IntWalk.i64_in _ (by omega)
      have HJ := Lib.hid hj
      have HX := Lib.hid hxd
      clear hst hh hxd hx hj hjt
      by_cases hbl : blank x = true
      · have HN := Lib.hid (show R = skipF src f (k + 1) by rw [HS.out, if_pos hbl])
        have hc : x = 32 ∨ (x ≠ 32 ∧ 9 ≤ x ∧ x ≤ 13) := by simp [blank] at hbl; omega
        clear HS hbl PK hp
        rcases hc with rfl | ⟨h1, h2, h3⟩
        all_goals
          go_wp2_with fail
          go_quiet (fail)
          go_wp2_with fail
          go_quiet (fail)
          go_wp2_with fail
          go_roundw
          case rel => exact ⟨f, k + 1, by omega, by omega, ⟨_, rfl⟩, HN, Lib.hid ((by repeat (first | exact hS.out | apply Sc.drewN) : Sc _ g src k sl).setTo (j + 1) (k + 1) (by have := HJ.out; omega)), Lib.hid (by repeat (first | exact hB.out | apply pw_below_drewN | refine Below.setCell ?_ hg _)), Lib.hid (by repeat (first | exact hK.out | apply keep_drewN | apply KeepBut.set_))⟩
          case measure => exact meas hS.out (k' := k + 1) ((by repeat (first | exact hS.out | apply Sc.drewN) : Sc _ g src k sl).setTo (j + 1) (k + 1) (by have := HJ.out; omega)) (by omega) hl
      · have hb2 : x ≠ 32 ∧ (x < 9 ∨ (9 ≤ x ∧ 13 < x)) := by simp [blank] at hbl; omega
        rw [if_neg hbl] at HS
        clear hbl
        by_cases hs47 : x = 47
        · subst hs47
          clear hb2
          by_cases hp47 : p = 47
          · subst hp47
            rw [if_pos ⟨rfl, rfl⟩] at HS
            obtain ⟨q, hq⟩ : ∃ q, q = Lib.indexByte (src.data.toList.drop k) 10 := ⟨_, rfl⟩
            rw [← hq] at HS
            have HI := Lib.hid (fun W => show Calls Tryd.prog 24 #[.string (src.extract j.toNat src.size), .int .u8 10] W fun e w' => e = .returned (.int .i64 q) ∧ w' = W from by have := Tryd.strings_IndexByte (src.extract j.toNat src.size) 10 W; rwa [show (src.extract j.toNat src.size).data.toList = src.data.toList.drop k by rw [ext_drop, show j.toNat = k by have := HJ.out; omega], show (10 : Int).toNat.toUInt8 = 10 from rfl, ← hq] at this)
            have hqlt : q < (src.size : Int) - k := by
              rcases indexByte_lt (src.data.toList.drop k) 10 with h | h
              · rw [← hq, List.length_drop, Array.length_toList] at h
                have : src.data.size = src.size := rfl
                omega
              · have := congrArg List.length h
                rw [List.length_drop, Array.length_toList] at this
                have h2 : src.data.size = src.size := rfl
                simp at this
                omega
            by_cases hq0 : 0 ≤ q
            · have hq1 : 1 ≤ q := by
                obtain ⟨c, hd, hb⟩ := bt_drop src k hl
                rw [hq, hd] at hq0 ⊢
                refine indexByte_pos _ _ _ ?_ hq0
                rintro rfl
                rw [← HJ.out, ← HX.out] at hb
                exact absurd hb (by decide)
              have HN := Lib.hid (show R = skipF src f (k + q.toNat) by rw [HS.out, if_pos hq0])
              have hw2 : IntKind.i64.wrap (j + q) = j + q := IntWalk.i64_in _ (by omega)
              clear HS hp hq
              go_wp2_with fail
              go_quiet (fail)
              go_wp2_with fail
              go_quiet (fail)
              go_wp2_with (first | (go_at_call 23; refine (PK.out _ (by repeat (first | exact hS.out | apply Sc.drewN))).mono ?_; rintro e w' ⟨rfl, m, rfl⟩))
              go_quiet (first | (go_at_call 24; exact (HI.out _).mono fun e w' h => ⟨h.1, _, h.2⟩))
              go_wp2_with fail
              go_roundw
              case rel => exact ⟨f, k + q.toNat, by omega, by omega, ⟨_, rfl⟩, HN, Lib.hid ((by repeat (first | exact hS.out | apply Sc.drewN) : Sc _ g src k sl).setTo (j + q) (k + q.toNat) (by have := HJ.out; omega)), Lib.hid (by repeat (first | exact hB.out | apply pw_below_drewN | refine Below.setCell ?_ hg _)), Lib.hid (by repeat (first | exact hK.out | apply keep_drewN | apply KeepBut.set_))⟩
              case measure => exact meas hS.out (k' := k + q.toNat) ((by repeat (first | exact hS.out | apply Sc.drewN) : Sc _ g src k sl).setTo (j + q) (k + q.toNat) (by have := HJ.out; omega)) (by omega) hl
            · have HN := Lib.hid (show R = skipF src f src.size by rw [HS.out, if_neg hq0])
              clear HS hp hq
              go_wp2_with fail
              go_quiet (fail)
              go_wp2_with fail
              go_quiet (fail)
              go_wp2_with (first | (go_at_call 23; refine (PK.out _ (by repeat (first | exact hS.out | apply Sc.drewN))).mono ?_; rintro e w' ⟨rfl, m, rfl⟩))
              go_quiet (first | (go_at_call 24; exact (HI.out _).mono fun e w' h => ⟨h.1, _, h.2⟩))
              go_wp2_with fail
              go_roundw
              case rel => exact ⟨f, src.size, by omega, by omega, ⟨_, rfl⟩, HN, Lib.hid ((by repeat (first | exact hS.out | apply Sc.drewN) : Sc _ g src k sl).setTo ((src.size : Int)) (src.size) (by have := HJ.out; omega)), Lib.hid (by repeat (first | exact hB.out | apply pw_below_drewN | refine Below.setCell ?_ hg _)), Lib.hid (by repeat (first | exact hK.out | apply keep_drewN | apply KeepBut.set_))⟩
              case measure => exact meas hS.out (k' := src.size) ((by repeat (first | exact hS.out | apply Sc.drewN) : Sc _ g src k sl).setTo ((src.size : Int)) (src.size) (by have := HJ.out; omega)) (by omega) hl
          · rw [if_neg (by simp [hp47])] at HS
            by_cases hp42 : p = 42
            · subst hp42
              rw [if_pos ⟨rfl, rfl⟩] at HS
              have hk1 : k + 1 < src.size := by
                by_cases h : k + 1 < src.size
                · exact h
                · have hz : bz src ((k : Int) + 1) = 0 := by
                    unfold bz Go.Proofs.YtjoboaaambdpoaaDoorW.PrintWords.bt
                    rw [dif_neg (by omega)]
                  rw [hz] at hp
                  exact absurd hp (by decide)
              obtain ⟨q, hq⟩ : ∃ q, q = Lib.index (src.data.toList.drop (k + 2)) [42, 47] := ⟨_, rfl⟩
              rw [← hq] at HS
              obtain ⟨i2, hi2⟩ : ∃ i2, i2 = j + 2 := ⟨_, rfl⟩
              have hw2 : IntKind.i64.wrap (j + 2) = i2 := by rw [hi2]; exact IntWalk.i64_in _ (by omega)
              have hi20 : 0 ≤ i2 := by omega
              have hi21 : i2 ≤ (src.size : Int) := by have := HJ.out; omega
              have HI2 := Lib.hid hi2
              clear hi2
              obtain ⟨m0, hm0⟩ := (HL.out.below hB.out).m
              have HI := Lib.hid (fun W (h : W.cell? ⟨0, 0, none⟩ = some (.int .i64 m0)) => show Calls Tryd.prog 25 #[.string (src.extract i2.toNat src.size), .string ⟨#[42, 47]⟩] W fun e w' => e = .returned (.int .i64 q) ∧ w' = W from by have := Tryd.strings_Index (src.extract i2.toNat src.size) ⟨#[42, 47]⟩ m0 W (by rw [ext_size]; omega) h; rwa [show (src.extract i2.toNat src.size).data.toList = src.data.toList.drop (k + 2) by rw [ext_drop, show i2.toNat = k + 2 by have := HJ.out; have := HI2.out; omega], show (⟨#[42, 47]⟩ : ByteArray).data.toList = [42, 47] from rfl, ← hq] at this)
              have hqle : q + 2 ≤ (src.size : Int) - (k + 2) ∨ q = -1 := by
                rcases index_le (src.data.toList.drop (k + 2)) [42, 47] with h | h
                · rw [← hq, List.length_drop, Array.length_toList] at h
                  have : src.data.size = src.size := rfl
                  simp at h
                  omega
                · right; rw [hq]; exact h
              have hqge : -1 ≤ q := by rw [hq]; exact Lib.index_ge _ _
              by_cases hq0 : q < 0
              · have HN := Lib.hid (show R = (false, k) by rw [HS.out, if_pos hq0])
                clear HS hp hq
                go_wp2_with fail
                go_quiet (fail)
                go_wp2_with fail
                go_quiet (fail)
                go_wp2_with (first | (go_at_call 23; refine (PK.out _ (by repeat (first | exact hS.out | apply Sc.drewN))).mono ?_; rintro e w' ⟨rfl, m, rfl⟩))
                go_quiet (first | (go_at_call 25; exact (HI.out _ (by simpa using hm0)).mono fun e w' h => ⟨h.1, _, h.2⟩))
                go_wp2_with fail
                go_ret
                exact ⟨by rw [HN.out]; rfl, by rw [HN.out]; repeat (first | exact hS.out | apply Sc.drewN), by rw [HN.out]; exact hk, by repeat (first | exact hB.out | apply pw_below_drewN), by repeat (first | exact hK.out | apply keep_drewN)⟩
              · have HN := Lib.hid (show R = skipF src f (k + q.toNat + 4) by rw [HS.out, if_neg hq0])
                have hw3 : IntKind.i64.wrap (q + 4) = q + 4 := IntWalk.i64_in _ (by omega)
                have hw4 : IntKind.i64.wrap (j + (q + 4)) = j + (q + 4) := IntWalk.i64_in _ (by omega)
                have hqp : 0 ≤ q := by omega
                clear HS hp hq
                go_wp2_with fail
                go_quiet (fail)
                go_wp2_with fail
                go_quiet (fail)
                go_wp2_with (first | (go_at_call 23; refine (PK.out _ (by repeat (first | exact hS.out | apply Sc.drewN))).mono ?_; rintro e w' ⟨rfl, m, rfl⟩))
                go_quiet (first | (go_at_call 25; exact (HI.out _ (by simpa using hm0)).mono fun e w' h => ⟨h.1, _, h.2⟩))
                go_wp2_with fail
                go_roundw
                case rel => exact ⟨f, k + q.toNat + 4, by omega, by omega, ⟨_, rfl⟩, HN, Lib.hid ((by repeat (first | exact hS.out | apply Sc.drewN) : Sc _ g src k sl).setTo (j + (q + 4)) (k + q.toNat + 4) (by have := HJ.out; omega)), Lib.hid (by repeat (first | exact hB.out | apply pw_below_drewN | refine Below.setCell ?_ hg _)), Lib.hid (by repeat (first | exact hK.out | apply keep_drewN | apply KeepBut.set_))⟩
                case measure => exact meas hS.out (k' := k + q.toNat + 4) ((by repeat (first | exact hS.out | apply Sc.drewN) : Sc _ g src k sl).setTo (j + (q + 4)) (k + q.toNat + 4) (by have := HJ.out; omega)) (by omega) hl
            · have HN := Lib.hid (show R = (true, k) by rw [HS.out, if_neg (by simp [hp42])])
              clear HS hp
              go_wp2_with fail
              go_quiet (fail)
              go_wp2_with fail
              go_quiet (fail)
              go_wp2_with (first | (go_at_call 23; refine (PK.out _ (by repeat (first | exact hS.out | apply Sc.drewN))).mono ?_; rintro e w' ⟨rfl, m, rfl⟩))
              go_ret
              exact ⟨by rw [HN.out]; rfl, by rw [HN.out]; repeat (first | exact hS.out | apply Sc.drewN), by rw [HN.out]; exact hk, by repeat (first | exact hB.out | apply pw_below_drewN), by repeat (first | exact hK.out | apply keep_drewN)⟩
        · have HN := Lib.hid (show R = (true, k) by rw [HS.out, if_neg (by simp [hs47]), if_neg (by simp [hs47])])
          clear HS hp PK
          obtain ⟨h1, h2⟩ := hb2
          rcases h2 with h2 | ⟨h2, h3⟩
          · skip
            go_wp2_with fail
            go_quiet (fail)
            go_wp2_with fail
            go_quiet (fail)
            go_wp2_with fail
            go_ret
            exact ⟨by rw [HN.out]; rfl, by rw [HN.out]; repeat (first | exact hS.out | apply Sc.drewN), by rw [HN.out]; exact hk, by repeat (first | exact hB.out | apply pw_below_drewN), by repeat (first | exact hK.out | apply keep_drewN)⟩
          · have hcnd : ((x == 32) = true ∨ x ≤ 13) = False := by simp; omega
            have h32 : (x == 32) = false := by simp; omega
            have h13 : decide (x ≤ 13) = false := decide_eq_false (by omega)
            go_wp2_with fail
            go_quiet (fail)
            go_wp2_with fail
            go_quiet (fail)
            go_wp2_with fail
            go_ret
            exact ⟨by rw [HN.out]; rfl, by rw [HN.out]; repeat (first | exact hS.out | apply Sc.drewN), by rw [HN.out]; exact hk, by repeat (first | exact hB.out | apply pw_below_drewN), by repeat (first | exact hK.out | apply keep_drewN)⟩
    · have hlj : (src.size : Int) ≤ (k : Int) := by omega
      have hld : decide ((k : Int) < (src.size : Int)) = false := decide_eq_false (by omega)
      have HN := Lib.hid (show R = (true, k) by rw [hh.out, skipF, if_neg hl])
      clear hh hl
      go_wp2_with fail
      go_quiet (fail)
      go_wp2_with fail
      go_ret
      exact ⟨by rw [HN.out]; rfl, by rw [HN.out]; exact hS.out.drewN _, by rw [HN.out]; exact hk, by repeat (first | exact hB.out | apply pw_below_drewN), by repeat (first | exact hK.out | apply keep_drewN)⟩

end Go.Proofs.YtjoboaaambdpoaaDoor
