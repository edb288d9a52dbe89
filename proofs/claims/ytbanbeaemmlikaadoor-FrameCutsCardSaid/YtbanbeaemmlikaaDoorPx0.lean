/- Written by px.py, a program of this place (it runs the print of the kit with turns of its own): each Go function as a plain Lean function, and the proof that a call of the Go function comes to it. Conditions: none but what each theorem says. -/
import Derived.Test.YtbanbeaemmlikaaDoorProg
import Derived.WalkMore
import Derived.Below
import Derived.Deep.Draws
import Derived.Deep.AppendLies
import Derived.Maps.AppendAt
import Derived.OwnWalk
import Derived.Laws.BytesArg
import Derived.Laws.MakeOwn
import Derived.Laws.OwnMore
import Derived.Deep.OwnRows
import Derived.Tactics
import Derived.Lib.ConvBytes
import Derived.Laws.Slices
import Derived.WalkKit
import Derived.KernelRfl
import Derived.RowKit3
import Derived.Deep.LoopGhost
import Derived.Deep.QuietTactic
import Derived.BigQuiet
import Derived.WideLaws
import Derived.Deep.DeepCutAuto
import Derived.Deep.CutBlock
import Derived.Deep.RegionHeld3
import Derived.Laws.Rows
import Derived.Lib.AppendStr
import Derived.ArgAppend
import Derived.Laws.IdiomCopy
import Derived.OrdersHeld
import Derived.Laws.BitsLemmas
import Derived.RowKit
import Derived.Test.YtbanbeaemmlikaaDoorTab
import Derived.Test.YtbanbeaemmlikaaDoorWWords
import Derived.Test.YtbanbeaemmlikaaDoorWLast
import Derived.Test.YtbanbeaemmlikaaDoorWTab
import Derived.Test.YtbanbeaemmlikaaDoorWFour
import Derived.Test.YtbanbeaemmlikaaDoorWQPut
import Derived.Test.YtbanbeaemmlikaaDoorWApart
import Derived.Test.YtbanbeaemmlikaaDoorWArr
import Derived.Test.YtbanbeaemmlikaaDoorWZeros
import Derived.Test.YtbanbeaemmlikaaDoorWFoot
import Derived.Test.YtbanbeaemmlikaaDoorWKept
import Derived.Test.YtbanbeaemmlikaaDoorWShare
import Derived.Test.YtbanbeaemmlikaaDoorWN
import Derived.Test.YtbanbeaemmlikaaDoorWFootNe
import Derived.Test.YtbanbeaemmlikaaDoorWAt
import Derived.Test.YtbanbeaemmlikaaDoorWEqStruct
import Derived.Test.YtbanbeaemmlikaaDoorWRepsOne
import Derived.Test.YtbanbeaemmlikaaDoorWInv
import Derived.Test.YtbanbeaemmlikaaDoorWInvWords
import Derived.Test.YtbanbeaemmlikaaDoorWGuard
import Derived.Test.YtbanbeaemmlikaaDoorWNEv
import Derived.Test.YtbanbeaemmlikaaDoorWMore
namespace Go.Proofs.YtbanbeaemmlikaaDoor.Px
open Go.RowKit Go.Proofs.YtbanbeaemmlikaaDoorW.PrintWords Go.Proofs.YtbanbeaemmlikaaDoorW.PrintLast Go.Proofs.YtbanbeaemmlikaaDoorW.PrintMore
attribute [local go_sem high] not_u32
attribute [local go_sem] max2_int min2_int max_two min_two max_three min_three max_four min_four   -- for this text's walks alone
set_option linter.unusedVariables false
set_option linter.unusedSimpArgs false



def errW : Option Int → Value
  | none => .nilIface
  | some c => .iface 0 (.int .i64 c)
theorem errW_none : errW none = .nilIface := rfl
theorem errW_some (c : Int) : errW (some c) = .iface 0 (.int .i64 c) := rfl

theorem info3 : (Tryd.prog.info? 3).map (fun i => (i.zero, i.size, i.bytes)) = some (some (.int .i64 0), 1, 8) := by kernel_rfl
theorem info5 : (Tryd.prog.info? 5).map (fun i => (i.zero, i.size, i.bytes)) = some (some (.int .u8 0), 1, 1) := by kernel_rfl
theorem info9 : (Tryd.prog.info? 9).map (fun i => (i.zero, i.size, i.bytes)) = some (some (.string ⟨#[]⟩), 1, 16) := by kernel_rfl
-- the values' own types

end Go.Proofs.YtbanbeaemmlikaaDoor.Px
