/-
  DERIVED. GIVEN WITH THE SEED: THE CARDS: each row of YtapilekangmcoaaGreatDoorRows.lean that lists a variable, with what it lists TIED to the program's text (the seventh form; the later family's looks); each row that meets fmt, with fmt's text TOLD by the authors' own Lean function (tested against real Go, not proved from fmt's source: count such statements apart). THE CARD IS WHAT COUNTS. Prove the row's statement (the work); the ties are given (YtapilekangmcoaaGreatDoorTie.lean); close each card by the builder's one call (the guide's Derived/Test/ToyasCard.lean, 'card_holds'). Laid BY PROGRAM, IN A SANDBOX (cutbox-door.mjs). By AI agents, Wed Nov 11 2026. No macro, syntax, notation, axiom, sorry.
-/
import Derived.Test.YtapilekangmcoaaGreatDoorRows
import GoSem.ClaimSeven
namespace Go.Proofs.YtapilekangmcoaaGreatDoor
namespace Rows

/-- THE TIED CARD OF 'soffitlaw11.CalcSides'. -/
def calcSidesCard : Claim7 := { stood := { row := calcSidesRow, standIns := [], harness := (true, "ce8d34487c14062b3d3a5978532232efad2eb8cdeeaefd6806874d20554c8bbb"), looks := true }, kinds := [], alts := [], laidByText := true, laidKinds := [.data, .data, .data, .data, .sentinel, .sentinel, .data, .pinned], laidTests := true, laidLooks := .later }
def CalcSidesCardSaid : Prop := Claim7.holds Tryz.pinned (.plain (OpenSpec.ofChange calcSidesSpec)) calcSidesCard

/-- THE TIED CARD OF 'soffitlaw08.ExprNames'. -/
def exprNamesCard : Claim7 := { stood := { row := exprNamesRow, standIns := [], harness := (true, "ce8d34487c14062b3d3a5978532232efad2eb8cdeeaefd6806874d20554c8bbb"), looks := true }, kinds := [], alts := [], laidByText := true, laidKinds := [.data, .data, .data, .data, .sentinel, .sentinel, .pinned], laidTests := true, laidLooks := .later }
def ExprNamesCardSaid : Prop := Claim7.holds Tryz.pinned (.plain (OpenSpec.ofChange exprNamesSpec)) exprNamesCard

/-- THE TIED CARD OF 'soffitlaw11.CalcCompares'. -/
def calcComparesCard : Claim7 := { stood := { row := calcComparesRow, standIns := [], harness := (true, "ce8d34487c14062b3d3a5978532232efad2eb8cdeeaefd6806874d20554c8bbb"), looks := true }, kinds := [], alts := [], laidByText := true, laidKinds := [.data, .data, .data, .data, .sentinel, .sentinel, .data, .pinned], laidTests := true, laidLooks := .later }
def CalcComparesCardSaid : Prop := Claim7.holds Tryz.pinned (.plain (OpenSpec.ofChange calcComparesSpec)) calcComparesCard

/-- THE TIED CARD OF 'soffitlaw11.CalcThree'. -/
def calcThreeCard : Claim7 := { stood := { row := calcThreeRow, standIns := [], harness := (true, "ce8d34487c14062b3d3a5978532232efad2eb8cdeeaefd6806874d20554c8bbb"), looks := true }, kinds := [], alts := [], laidByText := true, laidKinds := [.data, .data, .data, .data, .sentinel, .sentinel, .data, .pinned], laidTests := true, laidLooks := .later }
def CalcThreeCardSaid : Prop := Claim7.holds Tryz.pinned (.plain (OpenSpec.ofChange calcThreeSpec)) calcThreeCard

/-- THE TIED CARD OF 'soffitlaw11.CalcSound'. -/
def calcSoundCard : Claim7 := { stood := { row := calcSoundRow, standIns := [], harness := (true, "ce8d34487c14062b3d3a5978532232efad2eb8cdeeaefd6806874d20554c8bbb"), looks := true }, kinds := [], alts := [], laidByText := true, laidKinds := [.data, .data, .data, .data, .sentinel, .sentinel, .data, .pinned], laidTests := true, laidLooks := .later }
def CalcSoundCardSaid : Prop := Claim7.holds Tryz.pinned (.plain (OpenSpec.ofChange calcSoundSpec)) calcSoundCard

/-- THE TIED CARD OF 'soffitlaw11.CalcIfs'. -/
def calcIfsCard : Claim7 := { stood := { row := calcIfsRow, standIns := [], harness := (true, "ce8d34487c14062b3d3a5978532232efad2eb8cdeeaefd6806874d20554c8bbb"), looks := true }, kinds := [], alts := [], laidByText := true, laidKinds := [.data, .data, .data, .data, .sentinel, .sentinel, .data, .pinned], laidTests := true, laidLooks := .later }
def CalcIfsCardSaid : Prop := Claim7.holds Tryz.pinned (.plain (OpenSpec.ofChange calcIfsSpec)) calcIfsCard

/-- THE SECOND FORM's CARD OF 'soffitlaw11.CalcSides'. -/
def calcSidesUptoCard : Claim7 := { stood := { row := calcSidesUptoRow, standIns := [], harness := (true, "ce8d34487c14062b3d3a5978532232efad2eb8cdeeaefd6806874d20554c8bbb"), looks := true }, kinds := [], alts := [], laidByText := true, laidKinds := [.data, .data, .data, .data, .sentinel, .sentinel, .data, .pinned], laidTests := true, laidLooks := .later }
def CalcSidesUptoCardSaid : Prop := Claim7.holds Tryz.pinned (.plain (OpenSpec.upto calcSidesSpec)) calcSidesUptoCard

/-- THE SECOND FORM's CARD OF 'soffitlaw08.ExprNames'. -/
def exprNamesUptoCard : Claim7 := { stood := { row := exprNamesUptoRow, standIns := [], harness := (true, "ce8d34487c14062b3d3a5978532232efad2eb8cdeeaefd6806874d20554c8bbb"), looks := true }, kinds := [], alts := [], laidByText := true, laidKinds := [.data, .data, .data, .data, .sentinel, .sentinel, .pinned], laidTests := true, laidLooks := .later }
def ExprNamesUptoCardSaid : Prop := Claim7.holds Tryz.pinned (.plain (OpenSpec.upto exprNamesSpec)) exprNamesUptoCard

/-- THE SECOND FORM's CARD OF 'soffitlaw11.CalcCompares'. -/
def calcComparesUptoCard : Claim7 := { stood := { row := calcComparesUptoRow, standIns := [], harness := (true, "ce8d34487c14062b3d3a5978532232efad2eb8cdeeaefd6806874d20554c8bbb"), looks := true }, kinds := [], alts := [], laidByText := true, laidKinds := [.data, .data, .data, .data, .sentinel, .sentinel, .data, .pinned], laidTests := true, laidLooks := .later }
def CalcComparesUptoCardSaid : Prop := Claim7.holds Tryz.pinned (.plain (OpenSpec.upto calcComparesSpec)) calcComparesUptoCard

/-- THE SECOND FORM's CARD OF 'soffitlaw11.CalcThree'. -/
def calcThreeUptoCard : Claim7 := { stood := { row := calcThreeUptoRow, standIns := [], harness := (true, "ce8d34487c14062b3d3a5978532232efad2eb8cdeeaefd6806874d20554c8bbb"), looks := true }, kinds := [], alts := [], laidByText := true, laidKinds := [.data, .data, .data, .data, .sentinel, .sentinel, .data, .pinned], laidTests := true, laidLooks := .later }
def CalcThreeUptoCardSaid : Prop := Claim7.holds Tryz.pinned (.plain (OpenSpec.upto calcThreeSpec)) calcThreeUptoCard

/-- THE SECOND FORM's CARD OF 'soffitlaw11.CalcSound'. -/
def calcSoundUptoCard : Claim7 := { stood := { row := calcSoundUptoRow, standIns := [], harness := (true, "ce8d34487c14062b3d3a5978532232efad2eb8cdeeaefd6806874d20554c8bbb"), looks := true }, kinds := [], alts := [], laidByText := true, laidKinds := [.data, .data, .data, .data, .sentinel, .sentinel, .data, .pinned], laidTests := true, laidLooks := .later }
def CalcSoundUptoCardSaid : Prop := Claim7.holds Tryz.pinned (.plain (OpenSpec.upto calcSoundSpec)) calcSoundUptoCard

/-- THE SECOND FORM's CARD OF 'soffitlaw11.CalcIfs'. -/
def calcIfsUptoCard : Claim7 := { stood := { row := calcIfsUptoRow, standIns := [], harness := (true, "ce8d34487c14062b3d3a5978532232efad2eb8cdeeaefd6806874d20554c8bbb"), looks := true }, kinds := [], alts := [], laidByText := true, laidKinds := [.data, .data, .data, .data, .sentinel, .sentinel, .data, .pinned], laidTests := true, laidLooks := .later }
def CalcIfsUptoCardSaid : Prop := Claim7.holds Tryz.pinned (.plain (OpenSpec.upto calcIfsSpec)) calcIfsUptoCard
end Rows
end Go.Proofs.YtapilekangmcoaaGreatDoor
