/-
  DERIVED. GIVEN WITH THE SEED: THE CARDS: each row of YteljkkfnnmikkaaDoorRows.lean that lists a variable, with what it lists TIED to the program's text (the seventh form; the later family's looks); each row that meets fmt, with fmt's text TOLD by the authors' own Lean function (tested against real Go, not proved from fmt's source: count such statements apart). THE CARD IS WHAT COUNTS. Prove the row's statement (the work); the ties are given (YteljkkfnnmikkaaDoorTie.lean); close each card by the builder's one call (the guide's Derived/Test/ToyasCard.lean, 'card_holds'). Laid BY PROGRAM, IN A SANDBOX (cutbox-door.mjs). By AI agents, Wed Nov 11 2026. No macro, syntax, notation, axiom, sorry.
-/
import Derived.Test.YteljkkfnnmikkaaDoorRows
import GoSem.ClaimSeven
namespace Go.Proofs.YteljkkfnnmikkaaDoor
namespace Rows

/-- THE TIED CARD OF 'soffitlaw01.DeciMakes'. -/
def deciMakesCard : Claim7 := { stood := { row := deciMakesRow, standIns := [], harness := (true, "d72e1d7eaf0c05f10e27de6734787c9a5a236c9512c58d082b471341df24ec8f"), looks := true }, kinds := [], alts := [], laidByText := true, laidKinds := [.data, .data, .data, .data, .sentinel, .sentinel, .pinned], laidTests := true, laidLooks := .later }
def DeciMakesCardSaid : Prop := Claim7.holds Tryd.pinned (.plain (OpenSpec.ofChange deciMakesSpec)) deciMakesCard

/-- THE TIED CARD OF 'soffitlaw01.DeciDivides'. -/
def deciDividesCard : Claim7 := { stood := { row := deciDividesRow, standIns := [], harness := (true, "d72e1d7eaf0c05f10e27de6734787c9a5a236c9512c58d082b471341df24ec8f"), looks := true }, kinds := [], alts := [], laidByText := true, laidKinds := [.data, .data, .data, .data, .sentinel, .sentinel, .pinned], laidTests := true, laidLooks := .later }
def DeciDividesCardSaid : Prop := Claim7.holds Tryd.pinned (.plain (OpenSpec.ofChange deciDividesSpec)) deciDividesCard

/-- THE TIED CARD OF 'soffitlaw01.DeciTexts'. -/
def deciTextsCard : Claim7 := { stood := { row := deciTextsRow, standIns := [], harness := (true, "d72e1d7eaf0c05f10e27de6734787c9a5a236c9512c58d082b471341df24ec8f"), looks := true }, kinds := [], alts := [], laidByText := true, laidKinds := [.data, .data, .data, .data, .sentinel, .sentinel, .pinned], laidTests := true, laidLooks := .later }
def DeciTextsCardSaid : Prop := Claim7.holds Tryd.pinned (.plain (OpenSpec.ofChange deciTextsSpec)) deciTextsCard

/-- THE TIED CARD OF 'soffitlaw01.DeciUnits'. -/
def deciUnitsCard : Claim7 := { stood := { row := deciUnitsRow, standIns := [], harness := (true, "d72e1d7eaf0c05f10e27de6734787c9a5a236c9512c58d082b471341df24ec8f"), looks := true }, kinds := [], alts := [], laidByText := true, laidKinds := [.data, .data, .data, .data, .sentinel, .sentinel, .pinned], laidTests := true, laidLooks := .later }
def DeciUnitsCardSaid : Prop := Claim7.holds Tryd.pinned (.plain (OpenSpec.ofChange deciUnitsSpec)) deciUnitsCard

/-- THE TIED CARD OF 'soffitlaw01.DeciBack'. -/
def deciBackCard : Claim7 := { stood := { row := deciBackRow, standIns := [], harness := (true, "d72e1d7eaf0c05f10e27de6734787c9a5a236c9512c58d082b471341df24ec8f"), looks := true }, kinds := [], alts := [], laidByText := true, laidKinds := [.data, .data, .data, .data, .sentinel, .sentinel, .pinned], laidTests := true, laidLooks := .later }
def DeciBackCardSaid : Prop := Claim7.holds Tryd.pinned (.plain (OpenSpec.ofChange deciBackSpec)) deciBackCard

/-- THE TIED CARD OF 'soffitlaw01.DeciLaws'. -/
def deciLawsCard : Claim7 := { stood := { row := deciLawsRow, standIns := [], harness := (true, "d72e1d7eaf0c05f10e27de6734787c9a5a236c9512c58d082b471341df24ec8f"), looks := true }, kinds := [], alts := [], laidByText := true, laidKinds := [.data, .data, .data, .data, .sentinel, .sentinel, .pinned], laidTests := true, laidLooks := .later }
def DeciLawsCardSaid : Prop := Claim7.holds Tryd.pinned (.plain (OpenSpec.ofChange deciLawsSpec)) deciLawsCard

/-- THE SECOND FORM's CARD OF 'soffitlaw01.DeciMakes'. -/
def deciMakesUptoCard : Claim7 := { stood := { row := deciMakesUptoRow, standIns := [], harness := (true, "d72e1d7eaf0c05f10e27de6734787c9a5a236c9512c58d082b471341df24ec8f"), looks := true }, kinds := [], alts := [], laidByText := true, laidKinds := [.data, .data, .data, .data, .sentinel, .sentinel, .pinned], laidTests := true, laidLooks := .later }
def DeciMakesUptoCardSaid : Prop := Claim7.holds Tryd.pinned (.plain (OpenSpec.upto deciMakesSpec)) deciMakesUptoCard

/-- THE SECOND FORM's CARD OF 'soffitlaw01.DeciDivides'. -/
def deciDividesUptoCard : Claim7 := { stood := { row := deciDividesUptoRow, standIns := [], harness := (true, "d72e1d7eaf0c05f10e27de6734787c9a5a236c9512c58d082b471341df24ec8f"), looks := true }, kinds := [], alts := [], laidByText := true, laidKinds := [.data, .data, .data, .data, .sentinel, .sentinel, .pinned], laidTests := true, laidLooks := .later }
def DeciDividesUptoCardSaid : Prop := Claim7.holds Tryd.pinned (.plain (OpenSpec.upto deciDividesSpec)) deciDividesUptoCard

/-- THE SECOND FORM's CARD OF 'soffitlaw01.DeciTexts'. -/
def deciTextsUptoCard : Claim7 := { stood := { row := deciTextsUptoRow, standIns := [], harness := (true, "d72e1d7eaf0c05f10e27de6734787c9a5a236c9512c58d082b471341df24ec8f"), looks := true }, kinds := [], alts := [], laidByText := true, laidKinds := [.data, .data, .data, .data, .sentinel, .sentinel, .pinned], laidTests := true, laidLooks := .later }
def DeciTextsUptoCardSaid : Prop := Claim7.holds Tryd.pinned (.plain (OpenSpec.upto deciTextsSpec)) deciTextsUptoCard

/-- THE SECOND FORM's CARD OF 'soffitlaw01.DeciUnits'. -/
def deciUnitsUptoCard : Claim7 := { stood := { row := deciUnitsUptoRow, standIns := [], harness := (true, "d72e1d7eaf0c05f10e27de6734787c9a5a236c9512c58d082b471341df24ec8f"), looks := true }, kinds := [], alts := [], laidByText := true, laidKinds := [.data, .data, .data, .data, .sentinel, .sentinel, .pinned], laidTests := true, laidLooks := .later }
def DeciUnitsUptoCardSaid : Prop := Claim7.holds Tryd.pinned (.plain (OpenSpec.upto deciUnitsSpec)) deciUnitsUptoCard

/-- THE SECOND FORM's CARD OF 'soffitlaw01.DeciBack'. -/
def deciBackUptoCard : Claim7 := { stood := { row := deciBackUptoRow, standIns := [], harness := (true, "d72e1d7eaf0c05f10e27de6734787c9a5a236c9512c58d082b471341df24ec8f"), looks := true }, kinds := [], alts := [], laidByText := true, laidKinds := [.data, .data, .data, .data, .sentinel, .sentinel, .pinned], laidTests := true, laidLooks := .later }
def DeciBackUptoCardSaid : Prop := Claim7.holds Tryd.pinned (.plain (OpenSpec.upto deciBackSpec)) deciBackUptoCard

/-- THE SECOND FORM's CARD OF 'soffitlaw01.DeciLaws'. -/
def deciLawsUptoCard : Claim7 := { stood := { row := deciLawsUptoRow, standIns := [], harness := (true, "d72e1d7eaf0c05f10e27de6734787c9a5a236c9512c58d082b471341df24ec8f"), looks := true }, kinds := [], alts := [], laidByText := true, laidKinds := [.data, .data, .data, .data, .sentinel, .sentinel, .pinned], laidTests := true, laidLooks := .later }
def DeciLawsUptoCardSaid : Prop := Claim7.holds Tryd.pinned (.plain (OpenSpec.upto deciLawsSpec)) deciLawsUptoCard
end Rows
end Go.Proofs.YteljkkfnnmikkaaDoor
