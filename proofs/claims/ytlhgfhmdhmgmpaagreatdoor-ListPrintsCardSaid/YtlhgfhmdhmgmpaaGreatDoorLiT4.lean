/- list.takes of any part; the parts of a line one behind the other. -/
import Derived.Test.YtlhgfhmdhmgmpaaGreatDoorLiT3
import Derived.Test.YtlhgfhmdhmgmpaaGreatDoorLiE
set_option linter.unusedVariables false
set_option linter.unusedSimpArgs false
namespace Go.Proofs.YtlhgfhmdhmgmpaaGreatDoor
open Go.RowKit Go.Proofs.YtlhgfhmdhmgmpaaGreatDoorW.PrintWords Go.Joins Go.Maps

theorem takeP_list {l l' : Line} {p : Part} {ws ws' : List ByteArray} (h : takeP l p ws = some (l', ws')) (hp : p ≠ .places) : l'.list = l.list := by
  cases p with
  | places => exact absurd rfl hp
  | reg o =>
    cases ws with
    | nil => cases h
    | cons s r =>
      rw [takeP] at h
      split at h
      · cases h
        unfold setF
        split
        · rfl
        · split <;> rfl
      · cases h
  | num =>
    cases ws with
    | nil => cases h
    | cons s r => rw [takeP] at h; split at h <;> cases h; rfl
  | word =>
    cases ws with
    | nil => cases h
    | cons s r => rw [takeP] at h; split at h <;> cases h; rfl
  | place =>
    cases ws with
    | nil => cases h
    | cons s r => rw [takeP] at h; split at h <;> cases h; rfl

theorem takeP_sub {l l' : Line} {p : Part} {ws ws' : List ByteArray} (h : takeP l p ws = some (l', ws')) : (∀ x ∈ ws', x ∈ ws) ∧ ws'.length ≤ ws.length := by
  have key : ∀ s r, ws = s :: r → ws' = r → (∀ x ∈ ws', x ∈ ws) ∧ ws'.length ≤ ws.length := fun s r h1 h2 => by
    subst h1; subst h2
    exact ⟨fun x hx => List.mem_cons_of_mem _ hx, by simp⟩
  cases p with
  | places =>
    rw [takeP] at h
    obtain ⟨ns, _, h2⟩ := Option.map_eq_some_iff.1 h
    cases h2
    exact ⟨fun x hx => by simp at hx, Nat.zero_le _⟩
  | reg o =>
    cases ws with
    | nil => cases h
    | cons s r => rw [takeP] at h; split at h <;> cases h; exact key s _ rfl rfl
  | num =>
    cases ws with
    | nil => cases h
    | cons s r => rw [takeP] at h; split at h <;> cases h; exact key s _ rfl rfl
  | word =>
    cases ws with
    | nil => cases h
    | cons s r => rw [takeP] at h; split at h <;> cases h; exact key s _ rfl rfl
  | place =>
    cases ws with
    | nil => cases h
    | cons s r => rw [takeP] at h; split at h <;> cases h; exact key s _ rfl rfl

def TakesU (b : Nat) (l : Line) (p : Part) (ws : List ByteArray) (w : World) (e : Ending) (w' : World) : Prop :=
  ∃ (ok : Bool) (v' : Value) (l' : Line) (ws' : List ByteArray) (vl : Value), e = .returned (.tuple #[v', .bool ok]) ∧ (∃ A n c, vl = .slice A n c) ∧ LineX w' b l' vl ∧ takeP l p ws = (if ok = true then some (l', ws') else none) ∧ (ok = true → WS w' b v' ws') ∧
    (ok = true → (p ≠ .places → vl = .slice none 0 0 ∧ l'.list = []) ∧ (p = .places → ∃ A c, vl = .slice A l'.list.length c ∧ (l'.list.length ≤ c ∧ ∀ ad, A = some ad → b < ad.block) ∧ kInt.C w' A l'.list.length l'.list)) ∧ Just b w w'

theorem takesU_of {b : Nat} {l : Line} {p : Part} {ws : List ByteArray} {w : World} (hl : l.list = []) (hp : p ≠ .places) {e : Ending} {w' : World} (h : TakesR b l (.slice none 0 0) p ws w e w') : TakesU b l p ws w e w' := by
  obtain ⟨ok, v', l', ws', h1, h2, h3, h4, h5⟩ := h
  refine ⟨ok, v', l', ws', _, h1, ⟨_, _, _, rfl⟩, h2, h3, h4, fun ho => ⟨fun _ => ⟨rfl, ?_⟩, fun e => absurd e hp⟩, h5⟩
  rw [if_pos ho] at h3
  rw [takeP_list h3 hp, hl]

theorem takes_any (p : Part) (b : Nat) (l : Line) (V : Value) (ws : List ByteArray) (w : World) (hL : LLaid w) (hx : LineX w b l (.slice none 0 0)) (hl : l.list = []) (ho : ∀ o, p = .reg o → o = 1 ∨ o = 2 ∨ o = 3) (hw : WS w b V ws) (hsz : ∀ s ∈ ws, s.size ≤ 281474976710656) (hlen : ws.length ≤ 4294967296) (hb16 : 8 + 1 ≤ b) :
    Calls Tryz.prog 63 #[pv b p, V] w (TakesU b l p ws w) := by
  cases p with
  | reg o => exact (takes_reg b o l _ V ws w hL hx (ho o rfl) hw hsz).mono fun e w' h => takesU_of hl (by simp) h
  | num => exact (takes_num b l _ V ws w hL hx hw hsz).mono fun e w' h => takesU_of hl (by simp) h
  | word => exact (takes_word b l _ V ws w hL hx hw hsz).mono fun e w' h => takesU_of hl (by simp) h
  | place => exact (takes_place b l _ V ws w hL hx hw hsz).mono fun e w' h => takesU_of hl (by simp) h
  | places =>
    refine (takes_places b l V ws w hL hx hl hw hsz hlen hb16).mono fun e w' h => ?_
    obtain ⟨ok, l', v, h1, h0, h2, h3, h4, h5⟩ := h
    exact ⟨ok, .slice none 0 0, l', [], v, h1, h0, h2, h3, fun _ => ⟨none, 0, rfl, Nat.le_refl _, (fun ad h => by cases h), fun j x hx => by simp at hx⟩, fun ho => ⟨fun e => absurd rfl e, fun _ => h4 ho⟩, h5⟩

/-- The parts of a line, one behind the other. -/
def takeF : Line → List Part → List ByteArray → Option (Line × List ByteArray)
  | l, [], ws => some (l, ws)
  | l, p :: ps, ws => (takeP l p ws).bind fun x => takeF x.1 ps x.2

theorem takeF_step {l l' : Line} {ps : List Part} {k : Nat} {p : Part} {ws ws' : List ByteArray} (hk : ps[k]? = some p) (h : takeP l p ws = some (l', ws')) : takeF l (ps.drop k) ws = takeF l' (ps.drop (k + 1)) ws' := by
  have hlt := (List.getElem?_eq_some_iff.1 hk).1
  have e : ps.drop k = p :: ps.drop (k + 1) := by
    rw [List.drop_eq_getElem_cons hlt, (List.getElem?_eq_some_iff.1 hk).2]
  rw [e, takeF, h]
  rfl

theorem takeF_fail {l : Line} {ps : List Part} {k : Nat} {p : Part} {ws : List ByteArray} (hk : ps[k]? = some p) (h : takeP l p ws = none) : takeF l (ps.drop k) ws = none := by
  have hlt := (List.getElem?_eq_some_iff.1 hk).1
  have e : ps.drop k = p :: ps.drop (k + 1) := by
    rw [List.drop_eq_getElem_cons hlt, (List.getElem?_eq_some_iff.1 hk).2]
  rw [e, takeF, h]
  rfl

theorem places_last (op : Int) (k : Nat) (h : (partsP op)[k]? = some .places) : k + 1 = (partsP op).length := by
  have h42 := partsP_places _ (List.mem_of_getElem? h)
  subst h42
  have e : partsP 42 = [.reg 1, .places] := by decide
  rw [e] at h ⊢
  match k, h with
  | 0, h => cases h
  | 1, h => rfl
  | (n + 2), h => simp at h

end Go.Proofs.YtlhgfhmdhmgmpaaGreatDoor
