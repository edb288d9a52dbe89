/- What is laid here: that the package-level table of package sum lies in block 0 of a world, and that it stays there below any growth. No condition. -/
import Derived.Test.YtbanbeaemmlikaaDoorProg
import Derived.Below
import Derived.Deep.Draws
import Derived.Test.YtbanbeaemmlikaaDoorWWords
namespace Go.Proofs.YtbanbeaemmlikaaDoor
open Go.RowKit Go.Proofs.YtbanbeaemmlikaaDoorW.PrintWords

def tabL : List Int := [0, 274646895, 549293790, 820201905, 1098587580, 1361435347, 1640403810, 1905808397, 2197175160, 2460548119, 2722870694, 2987750089, 3280807620, 3553878443, 3811616794, 4084100981]
def tabAt (i : Int) : Int := tabL.getD i.toNat 0

/-- The table lies in block 0. -/
structure TabIn (w : World) : Prop where
  cells : ∀ i : Nat, i < 16 → w.cell? ⟨0, i, none⟩ = some (.int .u32 (tabL.getD i 0))
  lt : 0 < w.heap.size

theorem TabIn.cell {w : World} (h : TabIn w) (j : Int) (h0 : 0 ≤ j) (h1 : j < 16) : w.cell? ⟨0, j.toNat, none⟩ = some (.int .u32 (tabAt j)) :=
  h.cells j.toNat (by omega)

theorem TabIn.below {w W : World} (h : TabIn w) (hb : Below w.heap.size w W) : TabIn W :=
  ⟨fun i hi => (hb.cell (p := ⟨0, i, none⟩) h.lt).trans (h.cells i hi), Nat.lt_of_lt_of_le h.lt hb.size⟩

theorem TabIn.drewN {w : World} (h : TabIn w) (n : Nat) : TabIn (w.drewN n) := h.below (pw_below_drewN (Below.refl _ _) n)

theorem TabIn.drew {w : World} (h : TabIn w) : TabIn w.drew := h.below (Below.refl _ _).drew

/-- '^x' of a uint32, as one word. -/
theorem not_u32 (n : Int) : Op.unary .xor (.int .u32 n) = (pure (.int .u32 (Go.bits .xor .u32 (-1) n)) : Sem Value) := by
  show Op.intBits .xor .u32 (if IntKind.u32.signed then -1 else IntKind.u32.max) n = _
  rw [if_neg (by decide)]
  show (pure (.int .u32 (Go.bits .xor .u32 IntKind.u32.max n)) : Sem Value) = _
  have e : Go.bits .xor .u32 IntKind.u32.max n = Go.bits .xor .u32 (-1) n := rfl
  rw [e]

end Go.Proofs.YtbanbeaemmlikaaDoor
