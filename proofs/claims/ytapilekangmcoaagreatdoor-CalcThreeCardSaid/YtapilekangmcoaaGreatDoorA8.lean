/- What stands for a text's bytes between quotes, plainly: a backslash ahead of each quote and each backslash. No program in sight. The walk of byteStringReplacer.Replace, for the two pairs that quoting asks. The walk of Replacer.Replace, for the two pairs that quoting asks. -/
import Derived.Deep.QuietTactic
import Derived.BigQuiet
import Derived.Test.YtapilekangmcoaaGreatDoorA5
import Derived.Test.YtapilekangmcoaaGreatDoorA7
set_option linter.unusedVariables false
set_option linter.unusedSimpArgs false
set_option maxHeartbeats 8000000
set_option maxRecDepth 100000
namespace Go.Proofs.YtapilekangmcoaaGreatDoor
def escC (c : UInt8) : Bs := if c = 92 then [92, 92] else if c = 34 then [92, 34] else [c]
def escB : Bs → Bs
 | [] => []
 | c :: l => escC c ++ escB l
theorem escC_same {c : UInt8} (h1 : c ≠ 34) (h2 : c ≠ 92) : escC c = [c] := by simp [escC, h1, h2]
end Go.Proofs.YtapilekangmcoaaGreatDoor
namespace Go.Proofs.YtapilekangmcoaaGreatDoor
open Go.RowKit
end Go.Proofs.YtapilekangmcoaaGreatDoor
namespace Go.Proofs.YtapilekangmcoaaGreatDoor
open Go.RowKit
end Go.Proofs.YtapilekangmcoaaGreatDoor
