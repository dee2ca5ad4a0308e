/- The walk of lex.one at any token, in its ways. The walk of lex.one at any token, at a text. -/
import Derived.Test.YtapilekangmcoaaGreatDoorA6
import Derived.Test.YtapilekangmcoaaGreatDoorA8
set_option linter.unusedVariables false
set_option linter.unusedSimpArgs false
set_option maxHeartbeats 8000000
set_option maxRecDepth 100000
namespace Go.Proofs.YtapilekangmcoaaGreatDoor
open Go.RowKit
attribute [local go_sem high] run_tok_eql run_tok_neq tkeq_self
end Go.Proofs.YtapilekangmcoaaGreatDoor
namespace Go.Proofs.YtapilekangmcoaaGreatDoor
open Go.RowKit
attribute [local go_sem high] run_tok_eql run_tok_neq tkeq_self
end Go.Proofs.YtapilekangmcoaaGreatDoor
