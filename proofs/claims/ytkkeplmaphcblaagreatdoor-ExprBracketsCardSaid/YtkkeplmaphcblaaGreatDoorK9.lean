/- The walk of lex.one at any token, in its ways. The walk of lex.one at any token, at a text. -/
import Derived.Test.YtkkeplmaphcblaaGreatDoorK6
import Derived.Test.YtkkeplmaphcblaaGreatDoorK8
namespace Go.Proofs.YtkkeplmaphcblaaGreatDoor
open Go.RowKit
attribute [local go_sem high] run_tok_eql run_tok_neq tkeq_self

theorem ss_new (W : World) (n : Nat) (hn : n = W.heap.size) : SS (W.alloc (.cells #[.string ⟨#[92]⟩, .string ⟨#[92, 92]⟩, .string ⟨#[34]⟩, .string ⟨#[92, 34]⟩] 9)) n repL := by
  subst hn
  have h := Blk.new W 9 #[.string ⟨#[92]⟩, .string ⟨#[92, 92]⟩, .string ⟨#[34]⟩, .string ⟨#[92, 34]⟩]
  intro i l hl
  match i, hl with
  | 0, hl => cases hl; exact h.cell 0
  | 1, hl => cases hl; exact h.cell 1
  | 2, hl => cases hl; exact h.cell 2
  | 3, hl => cases hl; exact h.cell 3
end Go.Proofs.YtkkeplmaphcblaaGreatDoor

namespace Go.Proofs.YtkkeplmaphcblaaGreatDoor
open Go.RowKit
attribute [local go_sem high] run_tok_eql run_tok_neq tkeq_self

theorem ss_newd (W : World) (n : Nat) (hn : n = W.heap.size) : SS (W.alloc (.cells #[.string ⟨#[92]⟩, .string ⟨#[92, 92]⟩, .string ⟨#[34]⟩, .string ⟨#[92, 34]⟩] 9)).drew n repL := ss_new W n hn
end Go.Proofs.YtkkeplmaphcblaaGreatDoor
