/- What is laid here: what a row's list of the table gives, a world for the witness, and how a slice of strings that came in is opened. No condition. -/
import Derived.Test.YtbanbeaemmlikaaDoorCards
import Derived.Test.YtbanbeaemmlikaaDoorTie
import Derived.Test.YtbanbeaemmlikaaDoorTab
import Derived.Test.YtbanbeaemmlikaaDoorWWords
import Derived.WalkKit
import Derived.ProofKit
import Derived.OpenShut
import Derived.ShutString
import Derived.ChangeOld
import Derived.SizedLaws
import Derived.Deep.DeepHandedRow
import Derived.Lib.LaidTab
namespace Go.Proofs.YtbanbeaemmlikaaDoor
open Go.ChangeShapes Go.WideShapes Go.ChangeAt Go.RowKit
open Go.Proofs.YtbanbeaemmlikaaDoorW.PrintWords

theorem own : ownKnob Tryd.prog.godebug = none := by kernel_rfl
theorem laidOut : laidOutB Tryd.prog = true := by kernel_rfl
theorem gTab : Tryd.prog.globalNamed "heliograph/sum.table" = some 0 := by kernel_rfl
theorem gTabType : (Tryd.prog.globals[0]?).map (·.type) = some 79 := by kernel_rfl
theorem cells79 : Tryd.prog.cellsOf 79 = 16 := by kernel_rfl
theorem cells24 : Tryd.prog.cellsOf 24 = 1 := by kernel_rfl

/-- The list of every row of this seat. -/
def theList : List (String × DataW Unit) := [("heliograph/sum.table", Rows.laid_heliograph_sum_table)]

theorem table {W : World} (h : laidMetH Tryd.prog theList W) : Lib.TabIs Tryd.prog W "heliograph/sum.table" .u32 tabL :=
  Lib.tabIs_of_head (rest := []) gTab gTabType Tryd.underlying79 Tryd.underlying24 cells24 cells79 h

theorem tabIn {W : World} (h : laidMetH Tryd.prog theList W) : TabIn W := by
  have hc : ∀ i : Nat, i < 16 → W.cell? ⟨0, i, none⟩ = some (.int .u32 (tabL.getD i 0)) := fun i hi => (table h).cell gTab i hi
  exact ⟨hc, World.block_lt_of_cell? W _ (hc 0 (by decide))⟩

/-- A world for the witness: the settled one, the table holding what its initialiser lays. -/
noncomputable def laidWorld (os : Os) : World :=
  { World.holding Tryd.prog os ⟨#[], #[], []⟩ with heap := (World.holding Tryd.prog os ⟨#[], #[], []⟩).heap.modify 0 fun
      | .cells _ t frozen => .cells (tabL.map fun n => Value.int .u32 n).toArray t frozen
      | o => o }

/-- A slice of strings that came in, as a list. -/
theorem strings_in {W : World} {A : Option Addr} {len cap : Nat} (h : (A = none ∧ len = 0 ∧ cap = 0) ∨ ∃ (a : Addr) (ss : List ByteArray), A = some a ∧ len ≤ cap ∧ cap ≤ maxLen ∧ len ≤ ss.length ∧ ∀ i, i < ss.length → W.cell? (a.add i) = some (.string (ss.getD i ByteArray.empty))) :
    ∃ l : List ByteArray, len = l.length ∧ Kd.C Kd.string W A l.length l ∧ l.length ≤ cap ∧ l.length ≤ maxLen := by
  rcases h with ⟨rfl, rfl, rfl⟩ | ⟨a, ss, rfl, hl, hm, hs, hc⟩
  · exact ⟨[], rfl, Kd.C_of_reads (enc := Value.string) (d := ByteArray.empty) (h1 := fun _ => rfl) ⟨rfl, by simp, fun h => absurd h (by simp)⟩, by simp, by simp⟩
  · have e : (ss.take len).length = len := by rw [List.length_take]; omega
    refine ⟨ss.take len, e.symm, Kd.C_of_reads (enc := Value.string) (d := ByteArray.empty) (h1 := fun _ => rfl) ⟨rfl, ?_, fun _ => ⟨a, rfl, fun j hj => ?_⟩⟩, by omega, by omega⟩
    · rw [e]; have : maxLen = 9223372036854775807 := rfl; omega
    · rw [e] at hj
      rw [hc j (by omega)]
      simp [hj]

end Go.Proofs.YtbanbeaemmlikaaDoor
