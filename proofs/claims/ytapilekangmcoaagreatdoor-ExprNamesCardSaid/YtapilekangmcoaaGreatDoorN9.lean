/- The walk of lex.one at any token, in its ways. The walk of lex.one at any token, at a text. -/
import Derived.Test.YtapilekangmcoaaGreatDoorN6
import Derived.Test.YtapilekangmcoaaGreatDoorN8
set_option linter.unusedVariables false
set_option linter.unusedSimpArgs false
set_option maxHeartbeats 8000000
set_option maxRecDepth 100000
namespace Go.Proofs.YtapilekangmcoaaGreatDoor
open Go.RowKit
attribute [local go_sem high] run_tok_eql run_tok_neq tkeq_self
theorem ss_new (W : World) (n : Nat) (hn : n = W.heap.size) : SS (W.alloc (.cells #[.string ⟨#[92]⟩, .string ⟨#[92, 92]⟩, .string ⟨#[34]⟩, .string ⟨#[92, 34]⟩] 9)) n repL := by
 subst hn
 have h := Blk.new W 9 #[.string ⟨#[92]⟩, .string ⟨#[92, 92]⟩, .string ⟨#[34]⟩, .string ⟨#[92, 34]⟩]
 intro i l hl
 match i, hl with
 | 0, hl => cases hl; exact h.cell 0
 | 1, hl => cases hl; exact h.cell 1
 | 2, hl => cases hl; exact h.cell 2
 | 3, hl => cases hl; exact h.cell 3
end Go.Proofs.YtapilekangmcoaaGreatDoor
namespace Go.Proofs.YtapilekangmcoaaGreatDoor
open Go.RowKit
attribute [local go_sem high] run_tok_eql run_tok_neq tkeq_self
theorem ss_newd (W : World) (n : Nat) (hn : n = W.heap.size) : SS (W.alloc (.cells #[.string ⟨#[92]⟩, .string ⟨#[92, 92]⟩, .string ⟨#[34]⟩, .string ⟨#[92, 34]⟩] 9)).drew n repL := ss_new W n hn
end Go.Proofs.YtapilekangmcoaaGreatDoor
