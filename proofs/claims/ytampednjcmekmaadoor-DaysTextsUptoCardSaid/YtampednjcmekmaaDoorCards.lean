/-
  DERIVED. GIVEN WITH THE SEED: THE CARDS: each row of YtampednjcmekmaaDoorRows.lean that lists a variable, with what it lists TIED to the program's text (the seventh form; the later family's looks); each row that meets fmt, with fmt's text TOLD by the authors' own Lean function (tested against real Go, not proved from fmt's source: count such statements apart). THE CARD IS WHAT COUNTS. Prove the row's statement (the work); the ties are given (YtampednjcmekmaaDoorTie.lean); close each card by the builder's one call (the guide's Derived/Test/ToyasCard.lean, 'card_holds'). Laid BY PROGRAM, IN A SANDBOX (cutbox-door.mjs). By AI agents, Wed Nov 11 2026. No macro, syntax, notation, axiom, sorry.
-/
import Derived.Test.YtampednjcmekmaaDoorRows
import GoSem.ClaimSeven
namespace Go.Proofs.YtampednjcmekmaaDoor
namespace Rows

/-- THE TIED CARD OF 'soffitlaw02.DaysDay'. -/
def daysDayCard : Claim7 := { stood := { row := daysDayRow, standIns := [], harness := (true, "47580309fe08a0c79ecb3c337ad51f24b394391ebc1a6dadb6ab5315092373fc"), looks := true }, kinds := [], alts := [], laidByText := true, laidKinds := [.data, .data, .data, .data, .sentinel, .sentinel, .pinned], laidTests := true, laidLooks := .later }
def DaysDayCardSaid : Prop := Claim7.holds Tryd.pinned (.plain (OpenSpec.ofChange daysDaySpec)) daysDayCard

/-- THE TIED CARD OF 'soffitlaw02.DaysTexts'. -/
def daysTextsCard : Claim7 := { stood := { row := daysTextsRow, standIns := [], harness := (true, "47580309fe08a0c79ecb3c337ad51f24b394391ebc1a6dadb6ab5315092373fc"), looks := true }, kinds := [], alts := [], laidByText := true, laidKinds := [.data, .data, .data, .data, .sentinel, .sentinel, .pinned], laidTests := true, laidLooks := .later }
def DaysTextsCardSaid : Prop := Claim7.holds Tryd.pinned (.plain (OpenSpec.ofChange daysTextsSpec)) daysTextsCard

/-- THE TIED CARD OF 'soffitlaw02.DaysBack'. -/
def daysBackCard : Claim7 := { stood := { row := daysBackRow, standIns := [], harness := (true, "47580309fe08a0c79ecb3c337ad51f24b394391ebc1a6dadb6ab5315092373fc"), looks := true }, kinds := [], alts := [], laidByText := true, laidKinds := [.data, .data, .data, .data, .sentinel, .sentinel, .pinned], laidTests := true, laidLooks := .later }
def DaysBackCardSaid : Prop := Claim7.holds Tryd.pinned (.plain (OpenSpec.ofChange daysBackSpec)) daysBackCard

/-- THE TIED CARD OF 'soffitlaw02.DaysOrder'. -/
def daysOrderCard : Claim7 := { stood := { row := daysOrderRow, standIns := [], harness := (true, "47580309fe08a0c79ecb3c337ad51f24b394391ebc1a6dadb6ab5315092373fc"), looks := true }, kinds := [], alts := [], laidByText := true, laidKinds := [.data, .data, .data, .data, .sentinel, .sentinel, .pinned], laidTests := true, laidLooks := .later }
def DaysOrderCardSaid : Prop := Claim7.holds Tryd.pinned (.plain (OpenSpec.ofChange daysOrderSpec)) daysOrderCard

/-- THE TIED CARD OF 'soffitlaw02.DaysLeap'. -/
def daysLeapCard : Claim7 := { stood := { row := daysLeapRow, standIns := [], harness := (true, "47580309fe08a0c79ecb3c337ad51f24b394391ebc1a6dadb6ab5315092373fc"), looks := true }, kinds := [], alts := [], laidByText := true, laidKinds := [.data, .data, .data, .data, .sentinel, .sentinel, .pinned], laidTests := true, laidLooks := .later }
def DaysLeapCardSaid : Prop := Claim7.holds Tryd.pinned (.plain (OpenSpec.ofChange daysLeapSpec)) daysLeapCard

/-- THE SECOND FORM's CARD OF 'soffitlaw02.DaysDay'. -/
def daysDayUptoCard : Claim7 := { stood := { row := daysDayUptoRow, standIns := [], harness := (true, "47580309fe08a0c79ecb3c337ad51f24b394391ebc1a6dadb6ab5315092373fc"), looks := true }, kinds := [], alts := [], laidByText := true, laidKinds := [.data, .data, .data, .data, .sentinel, .sentinel, .pinned], laidTests := true, laidLooks := .later }
def DaysDayUptoCardSaid : Prop := Claim7.holds Tryd.pinned (.plain (OpenSpec.upto daysDaySpec)) daysDayUptoCard

/-- THE SECOND FORM's CARD OF 'soffitlaw02.DaysTexts'. -/
def daysTextsUptoCard : Claim7 := { stood := { row := daysTextsUptoRow, standIns := [], harness := (true, "47580309fe08a0c79ecb3c337ad51f24b394391ebc1a6dadb6ab5315092373fc"), looks := true }, kinds := [], alts := [], laidByText := true, laidKinds := [.data, .data, .data, .data, .sentinel, .sentinel, .pinned], laidTests := true, laidLooks := .later }
def DaysTextsUptoCardSaid : Prop := Claim7.holds Tryd.pinned (.plain (OpenSpec.upto daysTextsSpec)) daysTextsUptoCard

/-- THE SECOND FORM's CARD OF 'soffitlaw02.DaysBack'. -/
def daysBackUptoCard : Claim7 := { stood := { row := daysBackUptoRow, standIns := [], harness := (true, "47580309fe08a0c79ecb3c337ad51f24b394391ebc1a6dadb6ab5315092373fc"), looks := true }, kinds := [], alts := [], laidByText := true, laidKinds := [.data, .data, .data, .data, .sentinel, .sentinel, .pinned], laidTests := true, laidLooks := .later }
def DaysBackUptoCardSaid : Prop := Claim7.holds Tryd.pinned (.plain (OpenSpec.upto daysBackSpec)) daysBackUptoCard

/-- THE SECOND FORM's CARD OF 'soffitlaw02.DaysOrder'. -/
def daysOrderUptoCard : Claim7 := { stood := { row := daysOrderUptoRow, standIns := [], harness := (true, "47580309fe08a0c79ecb3c337ad51f24b394391ebc1a6dadb6ab5315092373fc"), looks := true }, kinds := [], alts := [], laidByText := true, laidKinds := [.data, .data, .data, .data, .sentinel, .sentinel, .pinned], laidTests := true, laidLooks := .later }
def DaysOrderUptoCardSaid : Prop := Claim7.holds Tryd.pinned (.plain (OpenSpec.upto daysOrderSpec)) daysOrderUptoCard

/-- THE SECOND FORM's CARD OF 'soffitlaw02.DaysLeap'. -/
def daysLeapUptoCard : Claim7 := { stood := { row := daysLeapUptoRow, standIns := [], harness := (true, "47580309fe08a0c79ecb3c337ad51f24b394391ebc1a6dadb6ab5315092373fc"), looks := true }, kinds := [], alts := [], laidByText := true, laidKinds := [.data, .data, .data, .data, .sentinel, .sentinel, .pinned], laidTests := true, laidLooks := .later }
def DaysLeapUptoCardSaid : Prop := Claim7.holds Tryd.pinned (.plain (OpenSpec.upto daysLeapSpec)) daysLeapUptoCard
end Rows
end Go.Proofs.YtampednjcmekmaaDoor
