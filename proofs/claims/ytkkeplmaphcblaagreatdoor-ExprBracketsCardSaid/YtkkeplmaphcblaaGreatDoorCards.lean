/-
  DERIVED. GIVEN WITH THE SEED: THE CARDS: each row of YtkkeplmaphcblaaGreatDoorRows.lean that lists a variable, with what it lists TIED to the program's text (the seventh form; the later family's looks); each row that meets fmt, with fmt's text TOLD by the authors' own Lean function (tested against real Go, not proved from fmt's source: count such statements apart). THE CARD IS WHAT COUNTS. Prove the row's statement (the work); the ties are given (YtkkeplmaphcblaaGreatDoorTie.lean); close each card by the builder's one call (the guide's Derived/Test/ToyasCard.lean, 'card_holds'). Laid BY PROGRAM, IN A SANDBOX (cutbox-door.mjs). By AI agents, Wed Nov 11 2026. No macro, syntax, notation, axiom, sorry.
-/
import Derived.Test.YtkkeplmaphcblaaGreatDoorRows
import GoSem.ClaimSeven
namespace Go.Proofs.YtkkeplmaphcblaaGreatDoor
namespace Rows

/-- THE TIED CARD OF 'soffitlaw11.CalcSides'. -/
def calcSidesCard : Claim7 := { stood := { row := calcSidesRow, standIns := [], harness := (true, "c3d1001286493afb320f70f7d7f3792d7c1ef0c3499aef5683490af4a7211def"), looks := true }, kinds := [], alts := [], laidByText := true, laidKinds := [.data, .data, .data, .data, .sentinel, .sentinel, .data, .pinned], laidTests := true, laidLooks := .later }
def CalcSidesCardSaid : Prop := Claim7.holds Tryz.pinned (.plain (OpenSpec.ofChange calcSidesSpec)) calcSidesCard

/-- THE TIED CARD OF 'soffitlaw08.ExprNames'. -/
def exprNamesCard : Claim7 := { stood := { row := exprNamesRow, standIns := [], harness := (true, "c3d1001286493afb320f70f7d7f3792d7c1ef0c3499aef5683490af4a7211def"), looks := true }, kinds := [], alts := [], laidByText := true, laidKinds := [.data, .data, .data, .data, .sentinel, .sentinel, .pinned], laidTests := true, laidLooks := .later }
def ExprNamesCardSaid : Prop := Claim7.holds Tryz.pinned (.plain (OpenSpec.ofChange exprNamesSpec)) exprNamesCard

/-- THE TIED CARD OF 'soffitlaw09.UnaryBack'. -/
def unaryBackCard : Claim7 := { stood := { row := unaryBackRow, standIns := [], harness := (true, "c3d1001286493afb320f70f7d7f3792d7c1ef0c3499aef5683490af4a7211def"), looks := true }, kinds := [], alts := [], laidByText := true, laidKinds := [.data, .data, .data, .data, .sentinel, .sentinel, .pinned], laidTests := true, laidLooks := .later }
def UnaryBackCardSaid : Prop := Claim7.holds Tryz.pinned (.plain (OpenSpec.ofChange unaryBackSpec)) unaryBackCard

/-- THE TIED CARD OF 'soffitlaw09.UnaryOnce'. -/
def unaryOnceCard : Claim7 := { stood := { row := unaryOnceRow, standIns := [], harness := (true, "c3d1001286493afb320f70f7d7f3792d7c1ef0c3499aef5683490af4a7211def"), looks := true }, kinds := [], alts := [], laidByText := true, laidKinds := [.data, .data, .data, .data, .sentinel, .sentinel, .pinned], laidTests := true, laidLooks := .later }
def UnaryOnceCardSaid : Prop := Claim7.holds Tryz.pinned (.plain (OpenSpec.ofChange unaryOnceSpec)) unaryOnceCard

/-- THE TIED CARD OF 'soffitlaw09.UnaryTurned'. -/
def unaryTurnedCard : Claim7 := { stood := { row := unaryTurnedRow, standIns := [], harness := (true, "c3d1001286493afb320f70f7d7f3792d7c1ef0c3499aef5683490af4a7211def"), looks := true }, kinds := [], alts := [], laidByText := true, laidKinds := [.data, .data, .data, .data, .sentinel, .sentinel, .pinned], laidTests := true, laidLooks := .later }
def UnaryTurnedCardSaid : Prop := Claim7.holds Tryz.pinned (.plain (OpenSpec.ofChange unaryTurnedSpec)) unaryTurnedCard

/-- THE TIED CARD OF 'soffitlaw08.ExprBack'. -/
def exprBackCard : Claim7 := { stood := { row := exprBackRow, standIns := [], harness := (true, "c3d1001286493afb320f70f7d7f3792d7c1ef0c3499aef5683490af4a7211def"), looks := true }, kinds := [], alts := [], laidByText := true, laidKinds := [.data, .data, .data, .data, .sentinel, .sentinel, .pinned], laidTests := true, laidLooks := .later }
def ExprBackCardSaid : Prop := Claim7.holds Tryz.pinned (.plain (OpenSpec.ofChange exprBackSpec)) exprBackCard

/-- THE TIED CARD OF 'soffitlaw08.ExprOnce'. -/
def exprOnceCard : Claim7 := { stood := { row := exprOnceRow, standIns := [], harness := (true, "c3d1001286493afb320f70f7d7f3792d7c1ef0c3499aef5683490af4a7211def"), looks := true }, kinds := [], alts := [], laidByText := true, laidKinds := [.data, .data, .data, .data, .sentinel, .sentinel, .pinned], laidTests := true, laidLooks := .later }
def ExprOnceCardSaid : Prop := Claim7.holds Tryz.pinned (.plain (OpenSpec.ofChange exprOnceSpec)) exprOnceCard

/-- THE TIED CARD OF 'soffitlaw08.ExprBrackets'. -/
def exprBracketsCard : Claim7 := { stood := { row := exprBracketsRow, standIns := [], harness := (true, "c3d1001286493afb320f70f7d7f3792d7c1ef0c3499aef5683490af4a7211def"), looks := true }, kinds := [], alts := [], laidByText := true, laidKinds := [.data, .data, .data, .data, .sentinel, .sentinel, .pinned], laidTests := true, laidLooks := .later }
def ExprBracketsCardSaid : Prop := Claim7.holds Tryz.pinned (.plain (OpenSpec.ofChange exprBracketsSpec)) exprBracketsCard

/-- THE TIED CARD OF 'soffitlaw08.ExprSounds'. -/
def exprSoundsCard : Claim7 := { stood := { row := exprSoundsRow, standIns := [], harness := (true, "c3d1001286493afb320f70f7d7f3792d7c1ef0c3499aef5683490af4a7211def"), looks := true }, kinds := [], alts := [], laidByText := true, laidKinds := [.data, .data, .data, .data, .sentinel, .sentinel, .pinned], laidTests := true, laidLooks := .later }
def ExprSoundsCardSaid : Prop := Claim7.holds Tryz.pinned (.plain (OpenSpec.ofChange exprSoundsSpec)) exprSoundsCard

/-- THE TIED CARD OF 'soffitlaw11.CalcCompares'. -/
def calcComparesCard : Claim7 := { stood := { row := calcComparesRow, standIns := [], harness := (true, "c3d1001286493afb320f70f7d7f3792d7c1ef0c3499aef5683490af4a7211def"), looks := true }, kinds := [], alts := [], laidByText := true, laidKinds := [.data, .data, .data, .data, .sentinel, .sentinel, .data, .pinned], laidTests := true, laidLooks := .later }
def CalcComparesCardSaid : Prop := Claim7.holds Tryz.pinned (.plain (OpenSpec.ofChange calcComparesSpec)) calcComparesCard

/-- THE TIED CARD OF 'soffitlaw11.CalcThree'. -/
def calcThreeCard : Claim7 := { stood := { row := calcThreeRow, standIns := [], harness := (true, "c3d1001286493afb320f70f7d7f3792d7c1ef0c3499aef5683490af4a7211def"), looks := true }, kinds := [], alts := [], laidByText := true, laidKinds := [.data, .data, .data, .data, .sentinel, .sentinel, .data, .pinned], laidTests := true, laidLooks := .later }
def CalcThreeCardSaid : Prop := Claim7.holds Tryz.pinned (.plain (OpenSpec.ofChange calcThreeSpec)) calcThreeCard

/-- THE TIED CARD OF 'soffitlaw11.CalcSound'. -/
def calcSoundCard : Claim7 := { stood := { row := calcSoundRow, standIns := [], harness := (true, "c3d1001286493afb320f70f7d7f3792d7c1ef0c3499aef5683490af4a7211def"), looks := true }, kinds := [], alts := [], laidByText := true, laidKinds := [.data, .data, .data, .data, .sentinel, .sentinel, .data, .pinned], laidTests := true, laidLooks := .later }
def CalcSoundCardSaid : Prop := Claim7.holds Tryz.pinned (.plain (OpenSpec.ofChange calcSoundSpec)) calcSoundCard

/-- THE TIED CARD OF 'soffitlaw11.CalcIfs'. -/
def calcIfsCard : Claim7 := { stood := { row := calcIfsRow, standIns := [], harness := (true, "c3d1001286493afb320f70f7d7f3792d7c1ef0c3499aef5683490af4a7211def"), looks := true }, kinds := [], alts := [], laidByText := true, laidKinds := [.data, .data, .data, .data, .sentinel, .sentinel, .data, .pinned], laidTests := true, laidLooks := .later }
def CalcIfsCardSaid : Prop := Claim7.holds Tryz.pinned (.plain (OpenSpec.ofChange calcIfsSpec)) calcIfsCard

/-- THE SECOND FORM's CARD OF 'soffitlaw11.CalcSides'. -/
def calcSidesUptoCard : Claim7 := { stood := { row := calcSidesUptoRow, standIns := [], harness := (true, "c3d1001286493afb320f70f7d7f3792d7c1ef0c3499aef5683490af4a7211def"), looks := true }, kinds := [], alts := [], laidByText := true, laidKinds := [.data, .data, .data, .data, .sentinel, .sentinel, .data, .pinned], laidTests := true, laidLooks := .later }
def CalcSidesUptoCardSaid : Prop := Claim7.holds Tryz.pinned (.plain (OpenSpec.upto calcSidesSpec)) calcSidesUptoCard

/-- THE SECOND FORM's CARD OF 'soffitlaw08.ExprNames'. -/
def exprNamesUptoCard : Claim7 := { stood := { row := exprNamesUptoRow, standIns := [], harness := (true, "c3d1001286493afb320f70f7d7f3792d7c1ef0c3499aef5683490af4a7211def"), looks := true }, kinds := [], alts := [], laidByText := true, laidKinds := [.data, .data, .data, .data, .sentinel, .sentinel, .pinned], laidTests := true, laidLooks := .later }
def ExprNamesUptoCardSaid : Prop := Claim7.holds Tryz.pinned (.plain (OpenSpec.upto exprNamesSpec)) exprNamesUptoCard

/-- THE SECOND FORM's CARD OF 'soffitlaw09.UnaryBack'. -/
def unaryBackUptoCard : Claim7 := { stood := { row := unaryBackUptoRow, standIns := [], harness := (true, "c3d1001286493afb320f70f7d7f3792d7c1ef0c3499aef5683490af4a7211def"), looks := true }, kinds := [], alts := [], laidByText := true, laidKinds := [.data, .data, .data, .data, .sentinel, .sentinel, .pinned], laidTests := true, laidLooks := .later }
def UnaryBackUptoCardSaid : Prop := Claim7.holds Tryz.pinned (.plain (OpenSpec.upto unaryBackSpec)) unaryBackUptoCard

/-- THE SECOND FORM's CARD OF 'soffitlaw09.UnaryOnce'. -/
def unaryOnceUptoCard : Claim7 := { stood := { row := unaryOnceUptoRow, standIns := [], harness := (true, "c3d1001286493afb320f70f7d7f3792d7c1ef0c3499aef5683490af4a7211def"), looks := true }, kinds := [], alts := [], laidByText := true, laidKinds := [.data, .data, .data, .data, .sentinel, .sentinel, .pinned], laidTests := true, laidLooks := .later }
def UnaryOnceUptoCardSaid : Prop := Claim7.holds Tryz.pinned (.plain (OpenSpec.upto unaryOnceSpec)) unaryOnceUptoCard

/-- THE SECOND FORM's CARD OF 'soffitlaw09.UnaryTurned'. -/
def unaryTurnedUptoCard : Claim7 := { stood := { row := unaryTurnedUptoRow, standIns := [], harness := (true, "c3d1001286493afb320f70f7d7f3792d7c1ef0c3499aef5683490af4a7211def"), looks := true }, kinds := [], alts := [], laidByText := true, laidKinds := [.data, .data, .data, .data, .sentinel, .sentinel, .pinned], laidTests := true, laidLooks := .later }
def UnaryTurnedUptoCardSaid : Prop := Claim7.holds Tryz.pinned (.plain (OpenSpec.upto unaryTurnedSpec)) unaryTurnedUptoCard

/-- THE SECOND FORM's CARD OF 'soffitlaw08.ExprBack'. -/
def exprBackUptoCard : Claim7 := { stood := { row := exprBackUptoRow, standIns := [], harness := (true, "c3d1001286493afb320f70f7d7f3792d7c1ef0c3499aef5683490af4a7211def"), looks := true }, kinds := [], alts := [], laidByText := true, laidKinds := [.data, .data, .data, .data, .sentinel, .sentinel, .pinned], laidTests := true, laidLooks := .later }
def ExprBackUptoCardSaid : Prop := Claim7.holds Tryz.pinned (.plain (OpenSpec.upto exprBackSpec)) exprBackUptoCard

/-- THE SECOND FORM's CARD OF 'soffitlaw08.ExprOnce'. -/
def exprOnceUptoCard : Claim7 := { stood := { row := exprOnceUptoRow, standIns := [], harness := (true, "c3d1001286493afb320f70f7d7f3792d7c1ef0c3499aef5683490af4a7211def"), looks := true }, kinds := [], alts := [], laidByText := true, laidKinds := [.data, .data, .data, .data, .sentinel, .sentinel, .pinned], laidTests := true, laidLooks := .later }
def ExprOnceUptoCardSaid : Prop := Claim7.holds Tryz.pinned (.plain (OpenSpec.upto exprOnceSpec)) exprOnceUptoCard

/-- THE SECOND FORM's CARD OF 'soffitlaw08.ExprBrackets'. -/
def exprBracketsUptoCard : Claim7 := { stood := { row := exprBracketsUptoRow, standIns := [], harness := (true, "c3d1001286493afb320f70f7d7f3792d7c1ef0c3499aef5683490af4a7211def"), looks := true }, kinds := [], alts := [], laidByText := true, laidKinds := [.data, .data, .data, .data, .sentinel, .sentinel, .pinned], laidTests := true, laidLooks := .later }
def ExprBracketsUptoCardSaid : Prop := Claim7.holds Tryz.pinned (.plain (OpenSpec.upto exprBracketsSpec)) exprBracketsUptoCard

/-- THE SECOND FORM's CARD OF 'soffitlaw08.ExprSounds'. -/
def exprSoundsUptoCard : Claim7 := { stood := { row := exprSoundsUptoRow, standIns := [], harness := (true, "c3d1001286493afb320f70f7d7f3792d7c1ef0c3499aef5683490af4a7211def"), looks := true }, kinds := [], alts := [], laidByText := true, laidKinds := [.data, .data, .data, .data, .sentinel, .sentinel, .pinned], laidTests := true, laidLooks := .later }
def ExprSoundsUptoCardSaid : Prop := Claim7.holds Tryz.pinned (.plain (OpenSpec.upto exprSoundsSpec)) exprSoundsUptoCard

/-- THE SECOND FORM's CARD OF 'soffitlaw11.CalcCompares'. -/
def calcComparesUptoCard : Claim7 := { stood := { row := calcComparesUptoRow, standIns := [], harness := (true, "c3d1001286493afb320f70f7d7f3792d7c1ef0c3499aef5683490af4a7211def"), looks := true }, kinds := [], alts := [], laidByText := true, laidKinds := [.data, .data, .data, .data, .sentinel, .sentinel, .data, .pinned], laidTests := true, laidLooks := .later }
def CalcComparesUptoCardSaid : Prop := Claim7.holds Tryz.pinned (.plain (OpenSpec.upto calcComparesSpec)) calcComparesUptoCard

/-- THE SECOND FORM's CARD OF 'soffitlaw11.CalcThree'. -/
def calcThreeUptoCard : Claim7 := { stood := { row := calcThreeUptoRow, standIns := [], harness := (true, "c3d1001286493afb320f70f7d7f3792d7c1ef0c3499aef5683490af4a7211def"), looks := true }, kinds := [], alts := [], laidByText := true, laidKinds := [.data, .data, .data, .data, .sentinel, .sentinel, .data, .pinned], laidTests := true, laidLooks := .later }
def CalcThreeUptoCardSaid : Prop := Claim7.holds Tryz.pinned (.plain (OpenSpec.upto calcThreeSpec)) calcThreeUptoCard

/-- THE SECOND FORM's CARD OF 'soffitlaw11.CalcSound'. -/
def calcSoundUptoCard : Claim7 := { stood := { row := calcSoundUptoRow, standIns := [], harness := (true, "c3d1001286493afb320f70f7d7f3792d7c1ef0c3499aef5683490af4a7211def"), looks := true }, kinds := [], alts := [], laidByText := true, laidKinds := [.data, .data, .data, .data, .sentinel, .sentinel, .data, .pinned], laidTests := true, laidLooks := .later }
def CalcSoundUptoCardSaid : Prop := Claim7.holds Tryz.pinned (.plain (OpenSpec.upto calcSoundSpec)) calcSoundUptoCard

/-- THE SECOND FORM's CARD OF 'soffitlaw11.CalcIfs'. -/
def calcIfsUptoCard : Claim7 := { stood := { row := calcIfsUptoRow, standIns := [], harness := (true, "c3d1001286493afb320f70f7d7f3792d7c1ef0c3499aef5683490af4a7211def"), looks := true }, kinds := [], alts := [], laidByText := true, laidKinds := [.data, .data, .data, .data, .sentinel, .sentinel, .data, .pinned], laidTests := true, laidLooks := .later }
def CalcIfsUptoCardSaid : Prop := Claim7.holds Tryz.pinned (.plain (OpenSpec.upto calcIfsSpec)) calcIfsUptoCard
end Rows
end Go.Proofs.YtkkeplmaphcblaaGreatDoor
