/- The list's parts and texts, plainly. -/
import Derived.Test.YtlhgfhmdhmgmpaaGreatDoorRl
import Derived.Test.YtlhgfhmdhmgmpaaGreatDoorEncB
import Derived.Test.YtlhgfhmdhmgmpaaGreatDoorSh
import Derived.Lib.SmallJoins
set_option linter.unusedVariables false
set_option linter.unusedSimpArgs false
namespace Go.Proofs.YtlhgfhmdhmgmpaaGreatDoor
open Go.RowKit

/-- What stands behind a name. -/
inductive Part where
  | reg (o : Nat)
  | num
  | word
  | place
  | places
  deriving DecidableEq

def Part.off : Part → Nat
  | .reg o => o
  | .num => 3
  | .word => 4
  | .place => 5
  | .places => 6

def Part.ty : Part → TypeId
  | .reg _ => 120
  | .num => 121
  | .word => 89
  | .place => 92
  | .places => 95

/-- A part as an interface's value: a pointer into the line at block b. -/
def pv (b : Nat) (p : Part) : Value := .iface p.ty (.agg #[.pointer (some ⟨b, p.off, none⟩)])

def partsP (op : Int) : List Part :=
  if op = 1 then [.reg 1, .num]
  else if op = 2 then [.reg 1, .word]
  else if op = 42 then [.reg 1, .places]
  else if op = 45 ∨ op = 46 ∨ op = 47 then [.reg 1]
  else if op = 4 ∨ op = 27 ∨ op = 28 then [.reg 1, .reg 2, .num]
  else if 5 ≤ op ∧ op ≤ 23 then [.reg 1, .reg 2, .reg 3]
  else if 30 ≤ op ∧ op ≤ 39 then [.reg 1, .reg 2, .place]
  else if op = 40 ∨ op = 41 ∨ op = 43 then [.place]
  else if op = 44 then []
  else if op = 48 then [.num]
  else [.reg 1, .reg 2]

/-- What the walks want of the package's variables. -/
structure LLaid (w : World) : Prop where
  forms : Laid w
  pow : Lib.TabIs Tryz.prog w "internal/strconv.uint64pow10" .u64 Lib.pow10Tab
  spc : Lib.TabIs Tryz.prog w "strings.asciiSpace" .u8 Lib.asciiSpaceTab
  big : 6 < w.heap.size
  es : ∃ v, w.cell? ⟨7, 0, none⟩ = some v ∧ (v = .nilIface ∨ ∃ te pe, v = .iface te pe)
  er : ∃ v, w.cell? ⟨8, 0, none⟩ = some v ∧ (v = .nilIface ∨ ∃ te pe, v = .iface te pe)

theorem gPow : Tryz.prog.globalNamed "internal/strconv.uint64pow10" = some 4 := by kernel_rfl
theorem gSpc : Tryz.prog.globalNamed "strings.asciiSpace" = some 0 := by kernel_rfl

theorem LLaid.below {w w' : World} (h : LLaid w) (hb : Below w.heap.size w w') : LLaid w' := by
  obtain ⟨s, hs, hs2⟩ := h.es
  obtain ⟨r, hr, hr2⟩ := h.er
  exact ⟨h.forms.below hb, Go.Joins.var_stays gPow h.pow hb (Nat.le_refl _), Go.Joins.var_stays gSpc h.spc hb (Nat.le_refl _), Nat.lt_of_lt_of_le h.big hb.size, ⟨s, kp hb hs, hs2⟩, ⟨r, kp hb hr, hr2⟩⟩

end Go.Proofs.YtlhgfhmdhmgmpaaGreatDoor
