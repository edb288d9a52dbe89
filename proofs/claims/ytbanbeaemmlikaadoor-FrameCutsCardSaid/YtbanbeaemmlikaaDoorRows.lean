/-
  NARROWER THAN 'FOR EVERY INPUT', by the rows' own cells (each row's printed sentence says how): SumValues: laid · SumSeals: laid · SumTurned: laid · SumAlone: laid · FramePlays: laid · SumNil: laid · FrameBack: laid · SumPieces: laid · FramePuts: laid · FrameGets: laid · FrameCuts: laid · FrameJoins: laid · FrameNil: laid.
  DERIVED. THE GIVEN ROWS OF THIS SEAT. 13 by the template 'for every input the law returns true; each argument reads behind the call as it read before'; 0 by the template 'total and deterministic' (their statements: YtbanbeaemmlikaaDoorTotals.lean).
  GIVEN WITH THE SEED: the statements are not yours to turn. If you find one false, say at which input.
  Laid BY PROGRAM, IN A SANDBOX (cutbox-rows.mjs): the forced cells as the released guide's own fill.sh prints them over the translation 5e3162b2dc2076c3… (all of the seat's roots in one cut). By AI agents, Wed Nov 11 2026. No macro, syntax, notation, axiom, sorry.
-/
import Derived.Test.YtbanbeaemmlikaaDoorChecked
import GoSem.Claim
import GoSem.ClaimJoined
import GoSem.ClaimMapViews
import Derived.JoinedTies
import Derived.KernelRfl
namespace Go.Proofs.YtbanbeaemmlikaaDoor
/- THE CELL 'sum', in the pinned program and in every row, IS THE sha256 OF THE DUMP (.gsa) THAT YtbanbeaemmlikaaDoorProg.lean LOADS. Nothing in Lean hashes anything: it is a label: what it is worth is what the hold of that sum in a sandbox is worth. -/
noncomputable def Tryd.pinned : Pinned := { name := "ytbanbeaemmlikaadoor", sum := "5e3162b2dc2076c3956fc61a85722e92cab446c7a8bf82b496b261536e05438d", checked := Tryd.checked }
namespace Rows
def none {H : Type} : Left H := { results := [], args := [] }

/- WHAT THE LISTED PACKAGE-LEVEL VARIABLES READ AS WHEN THE CALL BEGINS. Each datum BY PROGRAM (the guide's laid-datum.mjs) off the statement by which the dump's own 'gosem.cut.vars' lays the variable. In a bare row this is a premise. The card (YtbanbeaemmlikaaDoorCards.lean) ties it to the program's text. -/
def laid_heliograph_sum_table {H : Type} : DataW H := .agg [.lit (.int .u32 0), .lit (.int .u32 274646895), .lit (.int .u32 549293790), .lit (.int .u32 820201905), .lit (.int .u32 1098587580), .lit (.int .u32 1361435347), .lit (.int .u32 1640403810), .lit (.int .u32 1905808397), .lit (.int .u32 2197175160), .lit (.int .u32 2460548119), .lit (.int .u32 2722870694), .lit (.int .u32 2987750089), .lit (.int .u32 3280807620), .lit (.int .u32 3553878443), .lit (.int .u32 3811616794), .lit (.int .u32 4084100981)]

/-- 'heliographlaw01.SumValues': WHATEVER THE INPUT: true; the input reads as it did. -/
def sumValuesSpec : ChangeSpec := { name := "sumValues", fn := fun _ => fun
  | [d] => { results := [.lit (.bool true)], args := [d] }
  | _ => none }
def sumValuesRow : OpenClaim := { program := "ytbanbeaemmlikaadoor", sum := "5e3162b2dc2076c3956fc61a85722e92cab446c7a8bf82b496b261536e05438d", func := "heliograph/heliographlaw01.SumValues", spec := "sumValues", named := ["heliograph/sum.table"], apart := false, laid := [("heliograph/sum.table", laid_heliograph_sum_table)] }
def SumValuesSaid : Prop := sumValuesRow.holds Tryd.pinned (OpenSpec.ofChange sumValuesSpec)

/-- ITS FALSE NEIGHBOUR: 'it returns false'. Refute it at one input. -/
def sumValuesWrong : ChangeSpec := { name := "sumValues", fn := fun _ => fun
  | [d] => { results := [.lit (.bool false)], args := [d] }
  | _ => none }
def SumValuesWrongFalsely : Prop := sumValuesRow.holds Tryd.pinned (OpenSpec.ofChange sumValuesWrong)

/-- 'heliographlaw01.SumSeals': WHATEVER THE INPUT: true; the input reads as it did. -/
def sumSealsSpec : ChangeSpec := { name := "sumSeals", fn := fun _ => fun
  | [d1, d2] => { results := [.lit (.bool true)], args := [d1, d2] }
  | _ => none }
def sumSealsRow : OpenClaim := { program := "ytbanbeaemmlikaadoor", sum := "5e3162b2dc2076c3956fc61a85722e92cab446c7a8bf82b496b261536e05438d", func := "heliograph/heliographlaw01.SumSeals", spec := "sumSeals", named := ["heliograph/sum.table"], apart := false, laid := [("heliograph/sum.table", laid_heliograph_sum_table)] }
def SumSealsSaid : Prop := sumSealsRow.holds Tryd.pinned (OpenSpec.ofChange sumSealsSpec)

/-- ITS FALSE NEIGHBOUR: 'it returns false'. Refute it at one input. -/
def sumSealsWrong : ChangeSpec := { name := "sumSeals", fn := fun _ => fun
  | [d1, d2] => { results := [.lit (.bool false)], args := [d1, d2] }
  | _ => none }
def SumSealsWrongFalsely : Prop := sumSealsRow.holds Tryd.pinned (OpenSpec.ofChange sumSealsWrong)

/-- 'heliographlaw01.SumTurned': WHATEVER THE INPUT: true; the input reads as it did. -/
def sumTurnedSpec : ChangeSpec := { name := "sumTurned", fn := fun _ => fun
  | [d1, d2, d3] => { results := [.lit (.bool true)], args := [d1, d2, d3] }
  | _ => none }
def sumTurnedRow : OpenClaim := { program := "ytbanbeaemmlikaadoor", sum := "5e3162b2dc2076c3956fc61a85722e92cab446c7a8bf82b496b261536e05438d", func := "heliograph/heliographlaw01.SumTurned", spec := "sumTurned", named := ["heliograph/sum.table"], apart := false, laid := [("heliograph/sum.table", laid_heliograph_sum_table)] }
def SumTurnedSaid : Prop := sumTurnedRow.holds Tryd.pinned (OpenSpec.ofChange sumTurnedSpec)

/-- ITS FALSE NEIGHBOUR: 'it returns false'. Refute it at one input. -/
def sumTurnedWrong : ChangeSpec := { name := "sumTurned", fn := fun _ => fun
  | [d1, d2, d3] => { results := [.lit (.bool false)], args := [d1, d2, d3] }
  | _ => none }
def SumTurnedWrongFalsely : Prop := sumTurnedRow.holds Tryd.pinned (OpenSpec.ofChange sumTurnedWrong)

/-- 'heliographlaw01.SumAlone': WHATEVER THE INPUT: true; the input reads as it did. -/
def sumAloneSpec : ChangeSpec := { name := "sumAlone", fn := fun _ => fun
  | [d1, d2, d3] => { results := [.lit (.bool true)], args := [d1, d2, d3] }
  | _ => none }
def sumAloneRow : OpenClaim := { program := "ytbanbeaemmlikaadoor", sum := "5e3162b2dc2076c3956fc61a85722e92cab446c7a8bf82b496b261536e05438d", func := "heliograph/heliographlaw01.SumAlone", spec := "sumAlone", named := ["heliograph/sum.table"], apart := false, laid := [("heliograph/sum.table", laid_heliograph_sum_table)] }
def SumAloneSaid : Prop := sumAloneRow.holds Tryd.pinned (OpenSpec.ofChange sumAloneSpec)

/-- ITS FALSE NEIGHBOUR: 'it returns false'. Refute it at one input. -/
def sumAloneWrong : ChangeSpec := { name := "sumAlone", fn := fun _ => fun
  | [d1, d2, d3] => { results := [.lit (.bool false)], args := [d1, d2, d3] }
  | _ => none }
def SumAloneWrongFalsely : Prop := sumAloneRow.holds Tryd.pinned (OpenSpec.ofChange sumAloneWrong)

/-- 'heliographlaw05.FramePlays': WHATEVER THE INPUT: true; the input reads as it did. -/
def framePlaysSpec : ChangeSpec := { name := "framePlays", fn := fun _ => fun
  | [d1, d2] => { results := [.lit (.bool true)], args := [d1, d2] }
  | _ => none }
def framePlaysRow : OpenClaim := { program := "ytbanbeaemmlikaadoor", sum := "5e3162b2dc2076c3956fc61a85722e92cab446c7a8bf82b496b261536e05438d", func := "heliograph/heliographlaw05.FramePlays", spec := "framePlays", inPlace := ["internal/abi.NoEscape"], named := ["heliograph/sum.table"], apart := false, laid := [("heliograph/sum.table", laid_heliograph_sum_table)] }
def FramePlaysSaid : Prop := framePlaysRow.holds Tryd.pinned (OpenSpec.ofChange framePlaysSpec)

/-- ITS FALSE NEIGHBOUR: 'it returns false'. Refute it at one input. -/
def framePlaysWrong : ChangeSpec := { name := "framePlays", fn := fun _ => fun
  | [d1, d2] => { results := [.lit (.bool false)], args := [d1, d2] }
  | _ => none }
def FramePlaysWrongFalsely : Prop := framePlaysRow.holds Tryd.pinned (OpenSpec.ofChange framePlaysWrong)

/-- 'heliographlaw01.SumNil': WHATEVER THE INPUT: true; the input reads as it did. -/
def sumNilSpec : ChangeSpec := { name := "sumNil", fn := fun _ => fun
  | [d] => { results := [.lit (.bool true)], args := [d] }
  | _ => none }
def sumNilRow : OpenClaim := { program := "ytbanbeaemmlikaadoor", sum := "5e3162b2dc2076c3956fc61a85722e92cab446c7a8bf82b496b261536e05438d", func := "heliograph/heliographlaw01.SumNil", spec := "sumNil", named := ["heliograph/sum.table"], apart := false, laid := [("heliograph/sum.table", laid_heliograph_sum_table)] }
def SumNilSaid : Prop := sumNilRow.holds Tryd.pinned (OpenSpec.ofChange sumNilSpec)

/-- ITS FALSE NEIGHBOUR: 'it returns false'. Refute it at one input. -/
def sumNilWrong : ChangeSpec := { name := "sumNil", fn := fun _ => fun
  | [d] => { results := [.lit (.bool false)], args := [d] }
  | _ => none }
def SumNilWrongFalsely : Prop := sumNilRow.holds Tryd.pinned (OpenSpec.ofChange sumNilWrong)

/-- 'heliographlaw05.FrameBack': WHATEVER THE INPUT: true; the input reads as it did. -/
def frameBackSpec : ChangeSpec := { name := "frameBack", fn := fun _ => fun
  | [d1, d2] => { results := [.lit (.bool true)], args := [d1, d2] }
  | _ => none }
def frameBackRow : OpenClaim := { program := "ytbanbeaemmlikaadoor", sum := "5e3162b2dc2076c3956fc61a85722e92cab446c7a8bf82b496b261536e05438d", func := "heliograph/heliographlaw05.FrameBack", spec := "frameBack", inPlace := ["internal/abi.NoEscape"], named := ["heliograph/sum.table"], apart := false, laid := [("heliograph/sum.table", laid_heliograph_sum_table)] }
def FrameBackSaid : Prop := frameBackRow.holds Tryd.pinned (OpenSpec.ofChange frameBackSpec)

/-- ITS FALSE NEIGHBOUR: 'it returns false'. Refute it at one input. -/
def frameBackWrong : ChangeSpec := { name := "frameBack", fn := fun _ => fun
  | [d1, d2] => { results := [.lit (.bool false)], args := [d1, d2] }
  | _ => none }
def FrameBackWrongFalsely : Prop := frameBackRow.holds Tryd.pinned (OpenSpec.ofChange frameBackWrong)

/-- 'heliographlaw01.SumPieces': WHATEVER THE INPUT: true; the input reads as it did. -/
def sumPiecesSpec : ChangeSpec := { name := "sumPieces", fn := fun _ => fun
  | [d1, d2] => { results := [.lit (.bool true)], args := [d1, d2] }
  | _ => none }
def sumPiecesRow : OpenClaim := { program := "ytbanbeaemmlikaadoor", sum := "5e3162b2dc2076c3956fc61a85722e92cab446c7a8bf82b496b261536e05438d", func := "heliograph/heliographlaw01.SumPieces", spec := "sumPieces", named := ["heliograph/sum.table"], apart := false, laid := [("heliograph/sum.table", laid_heliograph_sum_table)] }
def SumPiecesSaid : Prop := sumPiecesRow.holds Tryd.pinned (OpenSpec.ofChange sumPiecesSpec)

/-- ITS FALSE NEIGHBOUR: 'it returns false'. Refute it at one input. -/
def sumPiecesWrong : ChangeSpec := { name := "sumPieces", fn := fun _ => fun
  | [d1, d2] => { results := [.lit (.bool false)], args := [d1, d2] }
  | _ => none }
def SumPiecesWrongFalsely : Prop := sumPiecesRow.holds Tryd.pinned (OpenSpec.ofChange sumPiecesWrong)

/-- 'heliographlaw05.FramePuts': WHATEVER THE INPUT: true; the input reads as it did. -/
def framePutsSpec : ChangeSpec := { name := "framePuts", fn := fun _ => fun
  | [d1, d2] => { results := [.lit (.bool true)], args := [d1, d2] }
  | _ => none }
def framePutsRow : OpenClaim := { program := "ytbanbeaemmlikaadoor", sum := "5e3162b2dc2076c3956fc61a85722e92cab446c7a8bf82b496b261536e05438d", func := "heliograph/heliographlaw05.FramePuts", spec := "framePuts", inPlace := ["internal/abi.NoEscape"], named := ["heliograph/sum.table"], apart := false, laid := [("heliograph/sum.table", laid_heliograph_sum_table)] }
def FramePutsSaid : Prop := framePutsRow.holds Tryd.pinned (OpenSpec.ofChange framePutsSpec)

/-- ITS FALSE NEIGHBOUR: 'it returns false'. Refute it at one input. -/
def framePutsWrong : ChangeSpec := { name := "framePuts", fn := fun _ => fun
  | [d1, d2] => { results := [.lit (.bool false)], args := [d1, d2] }
  | _ => none }
def FramePutsWrongFalsely : Prop := framePutsRow.holds Tryd.pinned (OpenSpec.ofChange framePutsWrong)

/-- 'heliographlaw05.FrameGets': WHATEVER THE INPUT: true; the input reads as it did. -/
def frameGetsSpec : ChangeSpec := { name := "frameGets", fn := fun _ => fun
  | [d1, d2] => { results := [.lit (.bool true)], args := [d1, d2] }
  | _ => none }
def frameGetsRow : OpenClaim := { program := "ytbanbeaemmlikaadoor", sum := "5e3162b2dc2076c3956fc61a85722e92cab446c7a8bf82b496b261536e05438d", func := "heliograph/heliographlaw05.FrameGets", spec := "frameGets", inPlace := ["internal/abi.NoEscape"], named := ["heliograph/sum.table"], apart := false, laid := [("heliograph/sum.table", laid_heliograph_sum_table)] }
def FrameGetsSaid : Prop := frameGetsRow.holds Tryd.pinned (OpenSpec.ofChange frameGetsSpec)

/-- ITS FALSE NEIGHBOUR: 'it returns false'. Refute it at one input. -/
def frameGetsWrong : ChangeSpec := { name := "frameGets", fn := fun _ => fun
  | [d1, d2] => { results := [.lit (.bool false)], args := [d1, d2] }
  | _ => none }
def FrameGetsWrongFalsely : Prop := frameGetsRow.holds Tryd.pinned (OpenSpec.ofChange frameGetsWrong)

/-- 'heliographlaw05.FrameCuts': WHATEVER THE INPUT: true; the input reads as it did. -/
def frameCutsSpec : ChangeSpec := { name := "frameCuts", fn := fun _ => fun
  | [d1, d2, d3] => { results := [.lit (.bool true)], args := [d1, d2, d3] }
  | _ => none }
def frameCutsRow : OpenClaim := { program := "ytbanbeaemmlikaadoor", sum := "5e3162b2dc2076c3956fc61a85722e92cab446c7a8bf82b496b261536e05438d", func := "heliograph/heliographlaw05.FrameCuts", spec := "frameCuts", inPlace := ["internal/abi.NoEscape"], named := ["heliograph/sum.table"], apart := false, laid := [("heliograph/sum.table", laid_heliograph_sum_table)] }
def FrameCutsSaid : Prop := frameCutsRow.holds Tryd.pinned (OpenSpec.ofChange frameCutsSpec)

/-- ITS FALSE NEIGHBOUR: 'it returns false'. Refute it at one input. -/
def frameCutsWrong : ChangeSpec := { name := "frameCuts", fn := fun _ => fun
  | [d1, d2, d3] => { results := [.lit (.bool false)], args := [d1, d2, d3] }
  | _ => none }
def FrameCutsWrongFalsely : Prop := frameCutsRow.holds Tryd.pinned (OpenSpec.ofChange frameCutsWrong)

/-- 'heliographlaw05.FrameJoins': WHATEVER THE INPUT: true; the input reads as it did. -/
def frameJoinsSpec : ChangeSpec := { name := "frameJoins", fn := fun _ => fun
  | [d1, d2, d3] => { results := [.lit (.bool true)], args := [d1, d2, d3] }
  | _ => none }
def frameJoinsRow : OpenClaim := { program := "ytbanbeaemmlikaadoor", sum := "5e3162b2dc2076c3956fc61a85722e92cab446c7a8bf82b496b261536e05438d", func := "heliograph/heliographlaw05.FrameJoins", spec := "frameJoins", inPlace := ["internal/abi.NoEscape"], named := ["heliograph/sum.table"], apart := false, laid := [("heliograph/sum.table", laid_heliograph_sum_table)] }
def FrameJoinsSaid : Prop := frameJoinsRow.holds Tryd.pinned (OpenSpec.ofChange frameJoinsSpec)

/-- ITS FALSE NEIGHBOUR: 'it returns false'. Refute it at one input. -/
def frameJoinsWrong : ChangeSpec := { name := "frameJoins", fn := fun _ => fun
  | [d1, d2, d3] => { results := [.lit (.bool false)], args := [d1, d2, d3] }
  | _ => none }
def FrameJoinsWrongFalsely : Prop := frameJoinsRow.holds Tryd.pinned (OpenSpec.ofChange frameJoinsWrong)

/-- 'heliographlaw05.FrameNil': WHATEVER THE INPUT: true; the input reads as it did. -/
def frameNilSpec : ChangeSpec := { name := "frameNil", fn := fun _ => fun
  | [d] => { results := [.lit (.bool true)], args := [d] }
  | _ => none }
def frameNilRow : OpenClaim := { program := "ytbanbeaemmlikaadoor", sum := "5e3162b2dc2076c3956fc61a85722e92cab446c7a8bf82b496b261536e05438d", func := "heliograph/heliographlaw05.FrameNil", spec := "frameNil", inPlace := ["internal/abi.NoEscape"], named := ["heliograph/sum.table"], apart := false, laid := [("heliograph/sum.table", laid_heliograph_sum_table)] }
def FrameNilSaid : Prop := frameNilRow.holds Tryd.pinned (OpenSpec.ofChange frameNilSpec)

/-- ITS FALSE NEIGHBOUR: 'it returns false'. Refute it at one input. -/
def frameNilWrong : ChangeSpec := { name := "frameNil", fn := fun _ => fun
  | [d] => { results := [.lit (.bool false)], args := [d] }
  | _ => none }
def FrameNilWrongFalsely : Prop := frameNilRow.holds Tryd.pinned (OpenSpec.ofChange frameNilWrong)

/- THE SECOND FORM. 'bulk': how many values and letters a reading holds, each counted each time it is reached (what is shared counts as often as it is met; a slice's spare places count too). A statement '..UptoSaid' is the law's where the arguments, and the package variables that the reading takes, are together of bulk at most 1048576: NARROWER than '..Said'. Prove '..Said' where nothing that the law and all that it calls make is longer than what came in: it says more and counts as full. Else prove '..UptoSaid'. A law counts once. -/
mutual
def uptoBulk {H : Type} : DataW H → Nat
  | .lit (.string bytes) => bytes.length + 1
  | .lit _ => 1
  | .nil => 1
  | .ptr d => uptoBulk d + 1
  | .slice elems spare => uptoBulkAll elems + uptoBulkAll spare + 1
  | .agg parts => uptoBulkAll parts + 1
  | .iface _ d => uptoBulk d + 1
  | .map entries => uptoBulkEntries entries + 1
  | .held _ => 1
def uptoBulkAll {H : Type} : List (DataW H) → Nat
  | [] => 0
  | d :: r => uptoBulk d + uptoBulkAll r
def uptoBulkEntries {H : Type} : List (Lit × DataW H) → Nat
  | [] => 0
  | x :: r => uptoBulkEntry x + uptoBulkEntries r
def uptoBulkEntry {H : Type} : Lit × DataW H → Nat
  | (.string bytes, d) => bytes.length + uptoBulk d + 1
  | (_, d) => uptoBulk d + 1
 end
def uptoSmall : (H : Type) → List (DataW H) → Bool := fun _ ds => decide (uptoBulkAll ds ≤ 1048576)
def OpenSpec.upto (s : _root_.Go.ChangeSpec) : _root_.Go.OpenSpec := { _root_.Go.OpenSpec.ofChange s with cond := some uptoSmall }

/-- 'heliographlaw01.SumValues', WHERE WHAT IT READS IS OF BULK AT MOST 1048576: true; the input reads as it did. -/
def sumValuesUptoRow : OpenClaim := { program := "ytbanbeaemmlikaadoor", sum := "5e3162b2dc2076c3956fc61a85722e92cab446c7a8bf82b496b261536e05438d", func := "heliograph/heliographlaw01.SumValues", spec := "sumValues", named := ["heliograph/sum.table"], apart := false, laid := [("heliograph/sum.table", laid_heliograph_sum_table)], narrowed := true }
def SumValuesUptoSaid : Prop := sumValuesUptoRow.holds Tryd.pinned (OpenSpec.upto sumValuesSpec)

/-- 'heliographlaw01.SumSeals', WHERE WHAT IT READS IS OF BULK AT MOST 1048576: true; the input reads as it did. -/
def sumSealsUptoRow : OpenClaim := { program := "ytbanbeaemmlikaadoor", sum := "5e3162b2dc2076c3956fc61a85722e92cab446c7a8bf82b496b261536e05438d", func := "heliograph/heliographlaw01.SumSeals", spec := "sumSeals", named := ["heliograph/sum.table"], apart := false, laid := [("heliograph/sum.table", laid_heliograph_sum_table)], narrowed := true }
def SumSealsUptoSaid : Prop := sumSealsUptoRow.holds Tryd.pinned (OpenSpec.upto sumSealsSpec)

/-- 'heliographlaw01.SumTurned', WHERE WHAT IT READS IS OF BULK AT MOST 1048576: true; the input reads as it did. -/
def sumTurnedUptoRow : OpenClaim := { program := "ytbanbeaemmlikaadoor", sum := "5e3162b2dc2076c3956fc61a85722e92cab446c7a8bf82b496b261536e05438d", func := "heliograph/heliographlaw01.SumTurned", spec := "sumTurned", named := ["heliograph/sum.table"], apart := false, laid := [("heliograph/sum.table", laid_heliograph_sum_table)], narrowed := true }
def SumTurnedUptoSaid : Prop := sumTurnedUptoRow.holds Tryd.pinned (OpenSpec.upto sumTurnedSpec)

/-- 'heliographlaw01.SumAlone', WHERE WHAT IT READS IS OF BULK AT MOST 1048576: true; the input reads as it did. -/
def sumAloneUptoRow : OpenClaim := { program := "ytbanbeaemmlikaadoor", sum := "5e3162b2dc2076c3956fc61a85722e92cab446c7a8bf82b496b261536e05438d", func := "heliograph/heliographlaw01.SumAlone", spec := "sumAlone", named := ["heliograph/sum.table"], apart := false, laid := [("heliograph/sum.table", laid_heliograph_sum_table)], narrowed := true }
def SumAloneUptoSaid : Prop := sumAloneUptoRow.holds Tryd.pinned (OpenSpec.upto sumAloneSpec)

/-- 'heliographlaw05.FramePlays', WHERE WHAT IT READS IS OF BULK AT MOST 1048576: true; the input reads as it did. -/
def framePlaysUptoRow : OpenClaim := { program := "ytbanbeaemmlikaadoor", sum := "5e3162b2dc2076c3956fc61a85722e92cab446c7a8bf82b496b261536e05438d", func := "heliograph/heliographlaw05.FramePlays", spec := "framePlays", inPlace := ["internal/abi.NoEscape"], named := ["heliograph/sum.table"], apart := false, laid := [("heliograph/sum.table", laid_heliograph_sum_table)], narrowed := true }
def FramePlaysUptoSaid : Prop := framePlaysUptoRow.holds Tryd.pinned (OpenSpec.upto framePlaysSpec)

/-- 'heliographlaw01.SumNil', WHERE WHAT IT READS IS OF BULK AT MOST 1048576: true; the input reads as it did. -/
def sumNilUptoRow : OpenClaim := { program := "ytbanbeaemmlikaadoor", sum := "5e3162b2dc2076c3956fc61a85722e92cab446c7a8bf82b496b261536e05438d", func := "heliograph/heliographlaw01.SumNil", spec := "sumNil", named := ["heliograph/sum.table"], apart := false, laid := [("heliograph/sum.table", laid_heliograph_sum_table)], narrowed := true }
def SumNilUptoSaid : Prop := sumNilUptoRow.holds Tryd.pinned (OpenSpec.upto sumNilSpec)

/-- 'heliographlaw05.FrameBack', WHERE WHAT IT READS IS OF BULK AT MOST 1048576: true; the input reads as it did. -/
def frameBackUptoRow : OpenClaim := { program := "ytbanbeaemmlikaadoor", sum := "5e3162b2dc2076c3956fc61a85722e92cab446c7a8bf82b496b261536e05438d", func := "heliograph/heliographlaw05.FrameBack", spec := "frameBack", inPlace := ["internal/abi.NoEscape"], named := ["heliograph/sum.table"], apart := false, laid := [("heliograph/sum.table", laid_heliograph_sum_table)], narrowed := true }
def FrameBackUptoSaid : Prop := frameBackUptoRow.holds Tryd.pinned (OpenSpec.upto frameBackSpec)

/-- 'heliographlaw01.SumPieces', WHERE WHAT IT READS IS OF BULK AT MOST 1048576: true; the input reads as it did. -/
def sumPiecesUptoRow : OpenClaim := { program := "ytbanbeaemmlikaadoor", sum := "5e3162b2dc2076c3956fc61a85722e92cab446c7a8bf82b496b261536e05438d", func := "heliograph/heliographlaw01.SumPieces", spec := "sumPieces", named := ["heliograph/sum.table"], apart := false, laid := [("heliograph/sum.table", laid_heliograph_sum_table)], narrowed := true }
def SumPiecesUptoSaid : Prop := sumPiecesUptoRow.holds Tryd.pinned (OpenSpec.upto sumPiecesSpec)

/-- 'heliographlaw05.FramePuts', WHERE WHAT IT READS IS OF BULK AT MOST 1048576: true; the input reads as it did. -/
def framePutsUptoRow : OpenClaim := { program := "ytbanbeaemmlikaadoor", sum := "5e3162b2dc2076c3956fc61a85722e92cab446c7a8bf82b496b261536e05438d", func := "heliograph/heliographlaw05.FramePuts", spec := "framePuts", inPlace := ["internal/abi.NoEscape"], named := ["heliograph/sum.table"], apart := false, laid := [("heliograph/sum.table", laid_heliograph_sum_table)], narrowed := true }
def FramePutsUptoSaid : Prop := framePutsUptoRow.holds Tryd.pinned (OpenSpec.upto framePutsSpec)

/-- 'heliographlaw05.FrameGets', WHERE WHAT IT READS IS OF BULK AT MOST 1048576: true; the input reads as it did. -/
def frameGetsUptoRow : OpenClaim := { program := "ytbanbeaemmlikaadoor", sum := "5e3162b2dc2076c3956fc61a85722e92cab446c7a8bf82b496b261536e05438d", func := "heliograph/heliographlaw05.FrameGets", spec := "frameGets", inPlace := ["internal/abi.NoEscape"], named := ["heliograph/sum.table"], apart := false, laid := [("heliograph/sum.table", laid_heliograph_sum_table)], narrowed := true }
def FrameGetsUptoSaid : Prop := frameGetsUptoRow.holds Tryd.pinned (OpenSpec.upto frameGetsSpec)

/-- 'heliographlaw05.FrameCuts', WHERE WHAT IT READS IS OF BULK AT MOST 1048576: true; the input reads as it did. -/
def frameCutsUptoRow : OpenClaim := { program := "ytbanbeaemmlikaadoor", sum := "5e3162b2dc2076c3956fc61a85722e92cab446c7a8bf82b496b261536e05438d", func := "heliograph/heliographlaw05.FrameCuts", spec := "frameCuts", inPlace := ["internal/abi.NoEscape"], named := ["heliograph/sum.table"], apart := false, laid := [("heliograph/sum.table", laid_heliograph_sum_table)], narrowed := true }
def FrameCutsUptoSaid : Prop := frameCutsUptoRow.holds Tryd.pinned (OpenSpec.upto frameCutsSpec)

/-- 'heliographlaw05.FrameJoins', WHERE WHAT IT READS IS OF BULK AT MOST 1048576: true; the input reads as it did. -/
def frameJoinsUptoRow : OpenClaim := { program := "ytbanbeaemmlikaadoor", sum := "5e3162b2dc2076c3956fc61a85722e92cab446c7a8bf82b496b261536e05438d", func := "heliograph/heliographlaw05.FrameJoins", spec := "frameJoins", inPlace := ["internal/abi.NoEscape"], named := ["heliograph/sum.table"], apart := false, laid := [("heliograph/sum.table", laid_heliograph_sum_table)], narrowed := true }
def FrameJoinsUptoSaid : Prop := frameJoinsUptoRow.holds Tryd.pinned (OpenSpec.upto frameJoinsSpec)

/-- 'heliographlaw05.FrameNil', WHERE WHAT IT READS IS OF BULK AT MOST 1048576: true; the input reads as it did. -/
def frameNilUptoRow : OpenClaim := { program := "ytbanbeaemmlikaadoor", sum := "5e3162b2dc2076c3956fc61a85722e92cab446c7a8bf82b496b261536e05438d", func := "heliograph/heliographlaw05.FrameNil", spec := "frameNil", inPlace := ["internal/abi.NoEscape"], named := ["heliograph/sum.table"], apart := false, laid := [("heliograph/sum.table", laid_heliograph_sum_table)], narrowed := true }
def FrameNilUptoSaid : Prop := frameNilUptoRow.holds Tryd.pinned (OpenSpec.upto frameNilSpec)

end Rows
end Go.Proofs.YtbanbeaemmlikaaDoor
