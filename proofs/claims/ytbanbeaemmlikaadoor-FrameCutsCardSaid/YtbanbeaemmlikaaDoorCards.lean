/-
  DERIVED. GIVEN WITH THE SEED: THE CARDS: each row of YtbanbeaemmlikaaDoorRows.lean that lists a variable, with what it lists TIED to the program's text (the seventh form; the later family's looks); each row that meets fmt, with fmt's text TOLD by the authors' own Lean function (tested against real Go, not proved from fmt's source: count such statements apart). THE CARD IS WHAT COUNTS. Prove the row's statement (the work); the ties are given (YtbanbeaemmlikaaDoorTie.lean); close each card by the builder's one call (the guide's Derived/Test/ToyasCard.lean, 'card_holds'). Laid BY PROGRAM, IN A SANDBOX (cutbox-door.mjs). By AI agents, Wed Nov 11 2026. No macro, syntax, notation, axiom, sorry.
-/
import Derived.Test.YtbanbeaemmlikaaDoorRows
import GoSem.ClaimSeven
namespace Go.Proofs.YtbanbeaemmlikaaDoor
namespace Rows

/-- THE TIED CARD OF 'heliographlaw01.SumValues'. -/
def sumValuesCard : Claim7 := { stood := { row := sumValuesRow, standIns := [], harness := (true, "f7c06269a9d8f2eff72bd62ea93f27087a8e635505e71592d13e82fce6c54169"), looks := false }, kinds := [], alts := [], laidByText := true, laidKinds := [.data], laidTests := true, laidLooks := .later }
def SumValuesCardSaid : Prop := Claim7.holds Tryd.pinned (.plain (OpenSpec.ofChange sumValuesSpec)) sumValuesCard

/-- THE TIED CARD OF 'heliographlaw01.SumSeals'. -/
def sumSealsCard : Claim7 := { stood := { row := sumSealsRow, standIns := [], harness := (true, "f7c06269a9d8f2eff72bd62ea93f27087a8e635505e71592d13e82fce6c54169"), looks := false }, kinds := [], alts := [], laidByText := true, laidKinds := [.data], laidTests := true, laidLooks := .later }
def SumSealsCardSaid : Prop := Claim7.holds Tryd.pinned (.plain (OpenSpec.ofChange sumSealsSpec)) sumSealsCard

/-- THE TIED CARD OF 'heliographlaw01.SumTurned'. -/
def sumTurnedCard : Claim7 := { stood := { row := sumTurnedRow, standIns := [], harness := (true, "f7c06269a9d8f2eff72bd62ea93f27087a8e635505e71592d13e82fce6c54169"), looks := false }, kinds := [], alts := [], laidByText := true, laidKinds := [.data], laidTests := true, laidLooks := .later }
def SumTurnedCardSaid : Prop := Claim7.holds Tryd.pinned (.plain (OpenSpec.ofChange sumTurnedSpec)) sumTurnedCard

/-- THE TIED CARD OF 'heliographlaw01.SumAlone'. -/
def sumAloneCard : Claim7 := { stood := { row := sumAloneRow, standIns := [], harness := (true, "f7c06269a9d8f2eff72bd62ea93f27087a8e635505e71592d13e82fce6c54169"), looks := false }, kinds := [], alts := [], laidByText := true, laidKinds := [.data], laidTests := true, laidLooks := .later }
def SumAloneCardSaid : Prop := Claim7.holds Tryd.pinned (.plain (OpenSpec.ofChange sumAloneSpec)) sumAloneCard

/-- THE TIED CARD OF 'heliographlaw05.FramePlays'. -/
def framePlaysCard : Claim7 := { stood := { row := framePlaysRow, standIns := [], harness := (true, "f7c06269a9d8f2eff72bd62ea93f27087a8e635505e71592d13e82fce6c54169"), looks := false }, kinds := [], alts := [], laidByText := true, laidKinds := [.data], laidTests := true, laidLooks := .later }
def FramePlaysCardSaid : Prop := Claim7.holds Tryd.pinned (.plain (OpenSpec.ofChange framePlaysSpec)) framePlaysCard

/-- THE TIED CARD OF 'heliographlaw01.SumNil'. -/
def sumNilCard : Claim7 := { stood := { row := sumNilRow, standIns := [], harness := (true, "f7c06269a9d8f2eff72bd62ea93f27087a8e635505e71592d13e82fce6c54169"), looks := false }, kinds := [], alts := [], laidByText := true, laidKinds := [.data], laidTests := true, laidLooks := .later }
def SumNilCardSaid : Prop := Claim7.holds Tryd.pinned (.plain (OpenSpec.ofChange sumNilSpec)) sumNilCard

/-- THE TIED CARD OF 'heliographlaw05.FrameBack'. -/
def frameBackCard : Claim7 := { stood := { row := frameBackRow, standIns := [], harness := (true, "f7c06269a9d8f2eff72bd62ea93f27087a8e635505e71592d13e82fce6c54169"), looks := false }, kinds := [], alts := [], laidByText := true, laidKinds := [.data], laidTests := true, laidLooks := .later }
def FrameBackCardSaid : Prop := Claim7.holds Tryd.pinned (.plain (OpenSpec.ofChange frameBackSpec)) frameBackCard

/-- THE TIED CARD OF 'heliographlaw01.SumPieces'. -/
def sumPiecesCard : Claim7 := { stood := { row := sumPiecesRow, standIns := [], harness := (true, "f7c06269a9d8f2eff72bd62ea93f27087a8e635505e71592d13e82fce6c54169"), looks := false }, kinds := [], alts := [], laidByText := true, laidKinds := [.data], laidTests := true, laidLooks := .later }
def SumPiecesCardSaid : Prop := Claim7.holds Tryd.pinned (.plain (OpenSpec.ofChange sumPiecesSpec)) sumPiecesCard

/-- THE TIED CARD OF 'heliographlaw05.FramePuts'. -/
def framePutsCard : Claim7 := { stood := { row := framePutsRow, standIns := [], harness := (true, "f7c06269a9d8f2eff72bd62ea93f27087a8e635505e71592d13e82fce6c54169"), looks := false }, kinds := [], alts := [], laidByText := true, laidKinds := [.data], laidTests := true, laidLooks := .later }
def FramePutsCardSaid : Prop := Claim7.holds Tryd.pinned (.plain (OpenSpec.ofChange framePutsSpec)) framePutsCard

/-- THE TIED CARD OF 'heliographlaw05.FrameGets'. -/
def frameGetsCard : Claim7 := { stood := { row := frameGetsRow, standIns := [], harness := (true, "f7c06269a9d8f2eff72bd62ea93f27087a8e635505e71592d13e82fce6c54169"), looks := false }, kinds := [], alts := [], laidByText := true, laidKinds := [.data], laidTests := true, laidLooks := .later }
def FrameGetsCardSaid : Prop := Claim7.holds Tryd.pinned (.plain (OpenSpec.ofChange frameGetsSpec)) frameGetsCard

/-- THE TIED CARD OF 'heliographlaw05.FrameCuts'. -/
def frameCutsCard : Claim7 := { stood := { row := frameCutsRow, standIns := [], harness := (true, "f7c06269a9d8f2eff72bd62ea93f27087a8e635505e71592d13e82fce6c54169"), looks := false }, kinds := [], alts := [], laidByText := true, laidKinds := [.data], laidTests := true, laidLooks := .later }
def FrameCutsCardSaid : Prop := Claim7.holds Tryd.pinned (.plain (OpenSpec.ofChange frameCutsSpec)) frameCutsCard

/-- THE TIED CARD OF 'heliographlaw05.FrameJoins'. -/
def frameJoinsCard : Claim7 := { stood := { row := frameJoinsRow, standIns := [], harness := (true, "f7c06269a9d8f2eff72bd62ea93f27087a8e635505e71592d13e82fce6c54169"), looks := false }, kinds := [], alts := [], laidByText := true, laidKinds := [.data], laidTests := true, laidLooks := .later }
def FrameJoinsCardSaid : Prop := Claim7.holds Tryd.pinned (.plain (OpenSpec.ofChange frameJoinsSpec)) frameJoinsCard

/-- THE TIED CARD OF 'heliographlaw05.FrameNil'. -/
def frameNilCard : Claim7 := { stood := { row := frameNilRow, standIns := [], harness := (true, "f7c06269a9d8f2eff72bd62ea93f27087a8e635505e71592d13e82fce6c54169"), looks := false }, kinds := [], alts := [], laidByText := true, laidKinds := [.data], laidTests := true, laidLooks := .later }
def FrameNilCardSaid : Prop := Claim7.holds Tryd.pinned (.plain (OpenSpec.ofChange frameNilSpec)) frameNilCard

/-- THE SECOND FORM's CARD OF 'heliographlaw01.SumValues'. -/
def sumValuesUptoCard : Claim7 := { stood := { row := sumValuesUptoRow, standIns := [], harness := (true, "f7c06269a9d8f2eff72bd62ea93f27087a8e635505e71592d13e82fce6c54169"), looks := false }, kinds := [], alts := [], laidByText := true, laidKinds := [.data], laidTests := true, laidLooks := .later }
def SumValuesUptoCardSaid : Prop := Claim7.holds Tryd.pinned (.plain (OpenSpec.upto sumValuesSpec)) sumValuesUptoCard

/-- THE SECOND FORM's CARD OF 'heliographlaw01.SumSeals'. -/
def sumSealsUptoCard : Claim7 := { stood := { row := sumSealsUptoRow, standIns := [], harness := (true, "f7c06269a9d8f2eff72bd62ea93f27087a8e635505e71592d13e82fce6c54169"), looks := false }, kinds := [], alts := [], laidByText := true, laidKinds := [.data], laidTests := true, laidLooks := .later }
def SumSealsUptoCardSaid : Prop := Claim7.holds Tryd.pinned (.plain (OpenSpec.upto sumSealsSpec)) sumSealsUptoCard

/-- THE SECOND FORM's CARD OF 'heliographlaw01.SumTurned'. -/
def sumTurnedUptoCard : Claim7 := { stood := { row := sumTurnedUptoRow, standIns := [], harness := (true, "f7c06269a9d8f2eff72bd62ea93f27087a8e635505e71592d13e82fce6c54169"), looks := false }, kinds := [], alts := [], laidByText := true, laidKinds := [.data], laidTests := true, laidLooks := .later }
def SumTurnedUptoCardSaid : Prop := Claim7.holds Tryd.pinned (.plain (OpenSpec.upto sumTurnedSpec)) sumTurnedUptoCard

/-- THE SECOND FORM's CARD OF 'heliographlaw01.SumAlone'. -/
def sumAloneUptoCard : Claim7 := { stood := { row := sumAloneUptoRow, standIns := [], harness := (true, "f7c06269a9d8f2eff72bd62ea93f27087a8e635505e71592d13e82fce6c54169"), looks := false }, kinds := [], alts := [], laidByText := true, laidKinds := [.data], laidTests := true, laidLooks := .later }
def SumAloneUptoCardSaid : Prop := Claim7.holds Tryd.pinned (.plain (OpenSpec.upto sumAloneSpec)) sumAloneUptoCard

/-- THE SECOND FORM's CARD OF 'heliographlaw05.FramePlays'. -/
def framePlaysUptoCard : Claim7 := { stood := { row := framePlaysUptoRow, standIns := [], harness := (true, "f7c06269a9d8f2eff72bd62ea93f27087a8e635505e71592d13e82fce6c54169"), looks := false }, kinds := [], alts := [], laidByText := true, laidKinds := [.data], laidTests := true, laidLooks := .later }
def FramePlaysUptoCardSaid : Prop := Claim7.holds Tryd.pinned (.plain (OpenSpec.upto framePlaysSpec)) framePlaysUptoCard

/-- THE SECOND FORM's CARD OF 'heliographlaw01.SumNil'. -/
def sumNilUptoCard : Claim7 := { stood := { row := sumNilUptoRow, standIns := [], harness := (true, "f7c06269a9d8f2eff72bd62ea93f27087a8e635505e71592d13e82fce6c54169"), looks := false }, kinds := [], alts := [], laidByText := true, laidKinds := [.data], laidTests := true, laidLooks := .later }
def SumNilUptoCardSaid : Prop := Claim7.holds Tryd.pinned (.plain (OpenSpec.upto sumNilSpec)) sumNilUptoCard

/-- THE SECOND FORM's CARD OF 'heliographlaw05.FrameBack'. -/
def frameBackUptoCard : Claim7 := { stood := { row := frameBackUptoRow, standIns := [], harness := (true, "f7c06269a9d8f2eff72bd62ea93f27087a8e635505e71592d13e82fce6c54169"), looks := false }, kinds := [], alts := [], laidByText := true, laidKinds := [.data], laidTests := true, laidLooks := .later }
def FrameBackUptoCardSaid : Prop := Claim7.holds Tryd.pinned (.plain (OpenSpec.upto frameBackSpec)) frameBackUptoCard

/-- THE SECOND FORM's CARD OF 'heliographlaw01.SumPieces'. -/
def sumPiecesUptoCard : Claim7 := { stood := { row := sumPiecesUptoRow, standIns := [], harness := (true, "f7c06269a9d8f2eff72bd62ea93f27087a8e635505e71592d13e82fce6c54169"), looks := false }, kinds := [], alts := [], laidByText := true, laidKinds := [.data], laidTests := true, laidLooks := .later }
def SumPiecesUptoCardSaid : Prop := Claim7.holds Tryd.pinned (.plain (OpenSpec.upto sumPiecesSpec)) sumPiecesUptoCard

/-- THE SECOND FORM's CARD OF 'heliographlaw05.FramePuts'. -/
def framePutsUptoCard : Claim7 := { stood := { row := framePutsUptoRow, standIns := [], harness := (true, "f7c06269a9d8f2eff72bd62ea93f27087a8e635505e71592d13e82fce6c54169"), looks := false }, kinds := [], alts := [], laidByText := true, laidKinds := [.data], laidTests := true, laidLooks := .later }
def FramePutsUptoCardSaid : Prop := Claim7.holds Tryd.pinned (.plain (OpenSpec.upto framePutsSpec)) framePutsUptoCard

/-- THE SECOND FORM's CARD OF 'heliographlaw05.FrameGets'. -/
def frameGetsUptoCard : Claim7 := { stood := { row := frameGetsUptoRow, standIns := [], harness := (true, "f7c06269a9d8f2eff72bd62ea93f27087a8e635505e71592d13e82fce6c54169"), looks := false }, kinds := [], alts := [], laidByText := true, laidKinds := [.data], laidTests := true, laidLooks := .later }
def FrameGetsUptoCardSaid : Prop := Claim7.holds Tryd.pinned (.plain (OpenSpec.upto frameGetsSpec)) frameGetsUptoCard

/-- THE SECOND FORM's CARD OF 'heliographlaw05.FrameCuts'. -/
def frameCutsUptoCard : Claim7 := { stood := { row := frameCutsUptoRow, standIns := [], harness := (true, "f7c06269a9d8f2eff72bd62ea93f27087a8e635505e71592d13e82fce6c54169"), looks := false }, kinds := [], alts := [], laidByText := true, laidKinds := [.data], laidTests := true, laidLooks := .later }
def FrameCutsUptoCardSaid : Prop := Claim7.holds Tryd.pinned (.plain (OpenSpec.upto frameCutsSpec)) frameCutsUptoCard

/-- THE SECOND FORM's CARD OF 'heliographlaw05.FrameJoins'. -/
def frameJoinsUptoCard : Claim7 := { stood := { row := frameJoinsUptoRow, standIns := [], harness := (true, "f7c06269a9d8f2eff72bd62ea93f27087a8e635505e71592d13e82fce6c54169"), looks := false }, kinds := [], alts := [], laidByText := true, laidKinds := [.data], laidTests := true, laidLooks := .later }
def FrameJoinsUptoCardSaid : Prop := Claim7.holds Tryd.pinned (.plain (OpenSpec.upto frameJoinsSpec)) frameJoinsUptoCard

/-- THE SECOND FORM's CARD OF 'heliographlaw05.FrameNil'. -/
def frameNilUptoCard : Claim7 := { stood := { row := frameNilUptoRow, standIns := [], harness := (true, "f7c06269a9d8f2eff72bd62ea93f27087a8e635505e71592d13e82fce6c54169"), looks := false }, kinds := [], alts := [], laidByText := true, laidKinds := [.data], laidTests := true, laidLooks := .later }
def FrameNilUptoCardSaid : Prop := Claim7.holds Tryd.pinned (.plain (OpenSpec.upto frameNilSpec)) frameNilUptoCard
end Rows
end Go.Proofs.YtbanbeaemmlikaaDoor
