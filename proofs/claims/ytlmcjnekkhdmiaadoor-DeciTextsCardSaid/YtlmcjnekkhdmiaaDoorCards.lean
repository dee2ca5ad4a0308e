/-
  DERIVED. GIVEN WITH THE SEED: THE CARDS: each row of YtlmcjnekkhdmiaaDoorRows.lean that lists a variable, with what it lists TIED to the program's text (the seventh form; the later family's looks); each row that meets fmt, with fmt's text TOLD by the authors' own Lean function (tested against real Go, not proved from fmt's source: count such statements apart). THE CARD IS WHAT COUNTS. Prove the row's statement (the work); the ties are given (YtlmcjnekkhdmiaaDoorTie.lean); close each card by the builder's one call (the guide's Derived/Test/ToyasCard.lean, 'card_holds'). Laid BY PROGRAM, IN A SANDBOX (cutbox-door.mjs). By AI agents, Wed Nov 11 2026. No macro, syntax, notation, axiom, sorry.
-/
import Derived.Test.YtlmcjnekkhdmiaaDoorRows
import GoSem.ClaimSeven
namespace Go.Proofs.YtlmcjnekkhdmiaaDoor
namespace Rows

/-- THE TIED CARD OF 'soffitlaw01.DeciTexts'. -/
def deciTextsCard : Claim7 := { stood := { row := deciTextsRow, standIns := [], harness := (true, "383e753b9d216bbe05459774788c700dff93dbeb23bc334ddb6d536f6f38b1ae"), looks := true }, kinds := [], alts := [], laidByText := true, laidKinds := [.data, .data, .data, .data, .sentinel, .sentinel, .pinned], laidTests := true, laidLooks := .later }
def DeciTextsCardSaid : Prop := Claim7.holds Tryd.pinned (.plain (OpenSpec.ofChange deciTextsSpec)) deciTextsCard

/-- THE SECOND FORM's CARD OF 'soffitlaw01.DeciTexts'. -/
def deciTextsUptoCard : Claim7 := { stood := { row := deciTextsUptoRow, standIns := [], harness := (true, "383e753b9d216bbe05459774788c700dff93dbeb23bc334ddb6d536f6f38b1ae"), looks := true }, kinds := [], alts := [], laidByText := true, laidKinds := [.data, .data, .data, .data, .sentinel, .sentinel, .pinned], laidTests := true, laidLooks := .later }
def DeciTextsUptoCardSaid : Prop := Claim7.holds Tryd.pinned (.plain (OpenSpec.upto deciTextsSpec)) deciTextsUptoCard
end Rows
end Go.Proofs.YtlmcjnekkhdmiaaDoor
