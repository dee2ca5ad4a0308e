/-
  DERIVED. GIVEN WITH THE SEED: THE CARDS: each row of YteljkkfnnmikkaaGreatDoorRows.lean that lists a variable, with what it lists TIED to the program's text (the seventh form; the later family's looks); each row that meets fmt, with fmt's text TOLD by the authors' own Lean function (tested against real Go, not proved from fmt's source: count such statements apart). THE CARD IS WHAT COUNTS. Prove the row's statement (the work); the ties are given (YteljkkfnnmikkaaGreatDoorTie.lean); close each card by the builder's one call (the guide's Derived/Test/ToyasCard.lean, 'card_holds'). Laid BY PROGRAM, IN A SANDBOX (cutbox-door.mjs). By AI agents, Wed Nov 11 2026. No macro, syntax, notation, axiom, sorry.
-/
import Derived.Test.YteljkkfnnmikkaaGreatDoorRows
import GoSem.ClaimSeven
namespace Go.Proofs.YteljkkfnnmikkaaGreatDoor
namespace Rows

/-- THE TIED CARD OF 'soffitlaw01.DeciAdds'. -/
def deciAddsCard : Claim7 := { stood := { row := deciAddsRow, standIns := [], harness := (true, "9c78d6fd6a10992286913d108fdbbd9b93f470e230a303c1e3fc31124c4b1099"), looks := true }, kinds := [], alts := [], laidByText := true, laidKinds := [.data, .data, .data, .data, .sentinel, .sentinel, .pinned], laidTests := true, laidLooks := .later }
def DeciAddsCardSaid : Prop := Claim7.holds Tryz.pinned (.plain (OpenSpec.ofChange deciAddsSpec)) deciAddsCard

/-- THE TIED CARD OF 'soffitlaw01.DeciCompares'. -/
def deciComparesCard : Claim7 := { stood := { row := deciComparesRow, standIns := [], harness := (true, "9c78d6fd6a10992286913d108fdbbd9b93f470e230a303c1e3fc31124c4b1099"), looks := true }, kinds := [], alts := [], laidByText := true, laidKinds := [.data, .data, .data, .data, .sentinel, .sentinel, .pinned], laidTests := true, laidLooks := .later }
def DeciComparesCardSaid : Prop := Claim7.holds Tryz.pinned (.plain (OpenSpec.ofChange deciComparesSpec)) deciComparesCard

/-- THE SECOND FORM's CARD OF 'soffitlaw01.DeciAdds'. -/
def deciAddsUptoCard : Claim7 := { stood := { row := deciAddsUptoRow, standIns := [], harness := (true, "9c78d6fd6a10992286913d108fdbbd9b93f470e230a303c1e3fc31124c4b1099"), looks := true }, kinds := [], alts := [], laidByText := true, laidKinds := [.data, .data, .data, .data, .sentinel, .sentinel, .pinned], laidTests := true, laidLooks := .later }
def DeciAddsUptoCardSaid : Prop := Claim7.holds Tryz.pinned (.plain (OpenSpec.upto deciAddsSpec)) deciAddsUptoCard

/-- THE SECOND FORM's CARD OF 'soffitlaw01.DeciCompares'. -/
def deciComparesUptoCard : Claim7 := { stood := { row := deciComparesUptoRow, standIns := [], harness := (true, "9c78d6fd6a10992286913d108fdbbd9b93f470e230a303c1e3fc31124c4b1099"), looks := true }, kinds := [], alts := [], laidByText := true, laidKinds := [.data, .data, .data, .data, .sentinel, .sentinel, .pinned], laidTests := true, laidLooks := .later }
def DeciComparesUptoCardSaid : Prop := Claim7.holds Tryz.pinned (.plain (OpenSpec.upto deciComparesSpec)) deciComparesUptoCard
end Rows
end Go.Proofs.YteljkkfnnmikkaaGreatDoor
