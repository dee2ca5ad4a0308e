/- The walk of unary.write at a sound test. Printed by gunj.py. Contracts of Go's library The walk of unary.Text. Whether a text is a minus alone, however it is trimmed: plainly. The walk of unary.Parse. Printed by gunp.py. What is read as tests is sound, and where it is wrong lies in the text: plainly. The arithmetic of the reference's first: how it reads a sign's bytes; it is the model's decode, with what may not stand struck out. A text's signs, byte by byte, as the reference reads them: plainly. -/
import Derived.Test.YtkkeplmaphcblaaGreatDoorJ8
import Derived.Shelf.Strings.OnBuilder
import Derived.Shelf.Sort.Plain
import Derived.Shelf.Slices.Turned
import Derived.Shelf.Slices.CompactS
import Derived.Shelf.Slices.Cells
import Derived.Shelf.Slices.In.SortNone
import Derived.Ground.Names2Prog
import Derived.Shelf.LaysM
import Derived.Test.YtkkeplmaphcblaaGreatDoorProg
import Derived.Test.YtkkeplmaphcblaaGreatDoorJ6
import Derived.Test.YtkkeplmaphcblaaGreatDoorJ7
import Derived.Lib.DecodeN
import Derived.Test.YtkkeplmaphcblaaGreatDoorJ3
namespace Go.Proofs.YtkkeplmaphcblaaGreatDoor
open Go.RowKit Go.Shelf

section
variable (lk ln ls lm xk xn xs xm : Int) (lq xq : ByteArray) (w : World) (lo hi : ByteArray)
set_option maxHeartbeats 8000000 in
set_option maxRecDepth 100000 in
theorem wr_1 (ol oh : Bool) (KT : Hid (∀ W, Below w.heap.size w W → Calls Tryz.prog 92 #[.agg #[.int .i64 lk, .int .i64 ln, .int .i64 ls, .string lq, .int .i64 lm]] W fun e w' => e = .returned (.tuple #[.string lo, .int .i64 0]) ∧ Below W.heap.size W w')) :
    Calls Tryz.prog 56 #[.agg #[.int .i64 1, .int .i64 lk, .int .i64 ln, .int .i64 ls, .string lq, .int .i64 lm, .int .i64 xk, .int .i64 xn, .int .i64 xs, .string xq, .int .i64 xm, .bool ol, .bool oh]] w fun e w' => e = .returned (.string (lo)) ∧ Below w.heap.size w w' := by
  have k0 : Blk (w.alloc (.cells #[.int .i64 1, .int .i64 lk, .int .i64 ln, .int .i64 ls, .string lq, .int .i64 lm, .int .i64 xk, .int .i64 xn, .int .i64 xs, .string xq, .int .i64 xm, .bool ol, .bool oh] 82)) w.heap.size 82 #[.int .i64 1, .int .i64 lk, .int .i64 ln, .int .i64 ls, .string lq, .int .i64 lm, .int .i64 xk, .int .i64 xn, .int .i64 xs, .string xq, .int .i64 xm, .bool ol, .bool oh] := Blk.new _ _ _
  go_enter Tryz.func56, Tryz.ntmps56
  go_wp2_with fail
  refine (KT.out _ (by (repeat' (first | (with_reducible exact Below.refl _ _) | (with_reducible assumption) | (with_reducible refine balloc ?_ _) | (with_reducible refine Below.drew ?_) | (with_reducible refine bset ?_ ?_ _) | (with_reducible refine bstep ?_ (by with_reducible assumption)) | (with_reducible refine bturn ?_ (by with_reducible assumption) ?_) | go_size)))).mono ?_
  rintro e w1 ⟨rfl, hb1⟩
  have k1 := k0.step hb1
  have hb : Below w.heap.size w w1 := by (repeat' (first | (with_reducible exact Below.refl _ _) | (with_reducible assumption) | (with_reducible refine balloc ?_ _) | (with_reducible refine Below.drew ?_) | (with_reducible refine bset ?_ ?_ _) | (with_reducible refine bstep ?_ (by with_reducible assumption)) | (with_reducible refine bturn ?_ (by with_reducible assumption) ?_) | go_size))
  clear k0 hb1
  have hlu := k1.lt; have hllu := lts hlu; have qu0 := k1.cell 0; have qu1 := k1.cell 1; have qu2 := k1.cell 2; have qu3 := k1.cell 3; have qu4 := k1.cell 4; have qu5 := k1.cell 5; have qu6 := k1.cell 6; have qu7 := k1.cell 7; have qu8 := k1.cell 8; have qu9 := k1.cell 9; have qu10 := k1.cell 10; have qu11 := k1.cell 11; have qu12 := k1.cell 12; simp at qu0 qu1 qu2 qu3 qu4 qu5 qu6 qu7 qu8 qu9 qu10 qu11 qu12; have zu0 := k1.frozen 0; have zu1 := k1.frozen 1; have zu2 := k1.frozen 2; have zu3 := k1.frozen 3; have zu4 := k1.frozen 4; have zu5 := k1.frozen 5; have zu6 := k1.frozen 6; have zu7 := k1.frozen 7; have zu8 := k1.frozen 8; have zu9 := k1.frozen 9; have zu10 := k1.frozen 10; have zu11 := k1.frozen 11; have zu12 := k1.frozen 12; have Hk1 := Lib.hid k1; clear k1
  go_wp2_with fail
  go_returns
  exact ⟨rfl, by (repeat' (first | (with_reducible exact Below.refl _ _) | (with_reducible assumption) | (with_reducible refine balloc ?_ _) | (with_reducible refine Below.drew ?_) | (with_reducible refine bset ?_ ?_ _) | (with_reducible refine bstep ?_ (by with_reducible assumption)) | (with_reducible refine bturn ?_ (by with_reducible assumption) ?_) | go_size))⟩
set_option maxHeartbeats 8000000 in
set_option maxRecDepth 100000 in
theorem wr_2 (ol oh : Bool) (hl : lo.size ≤ 1000) (KT : Hid (∀ W, Below w.heap.size w W → Calls Tryz.prog 92 #[.agg #[.int .i64 lk, .int .i64 ln, .int .i64 ls, .string lq, .int .i64 lm]] W fun e w' => e = .returned (.tuple #[.string lo, .int .i64 0]) ∧ Below W.heap.size W w')) :
    Calls Tryz.prog 56 #[.agg #[.int .i64 2, .int .i64 lk, .int .i64 ln, .int .i64 ls, .string lq, .int .i64 lm, .int .i64 xk, .int .i64 xn, .int .i64 xs, .string xq, .int .i64 xm, .bool ol, .bool oh]] w fun e w' => e = .returned (.string (⟨#[60, 32]⟩ ++ lo)) ∧ Below w.heap.size w w' := by
  have hl1 : 2 + lo.size ≤ 9223372036854775807 := by omega
  have k0 : Blk (w.alloc (.cells #[.int .i64 2, .int .i64 lk, .int .i64 ln, .int .i64 ls, .string lq, .int .i64 lm, .int .i64 xk, .int .i64 xn, .int .i64 xs, .string xq, .int .i64 xm, .bool ol, .bool oh] 82)) w.heap.size 82 #[.int .i64 2, .int .i64 lk, .int .i64 ln, .int .i64 ls, .string lq, .int .i64 lm, .int .i64 xk, .int .i64 xn, .int .i64 xs, .string xq, .int .i64 xm, .bool ol, .bool oh] := Blk.new _ _ _
  go_enter Tryz.func56, Tryz.ntmps56
  go_wp2_with fail
  refine (KT.out _ (by (repeat' (first | (with_reducible exact Below.refl _ _) | (with_reducible assumption) | (with_reducible refine balloc ?_ _) | (with_reducible refine Below.drew ?_) | (with_reducible refine bset ?_ ?_ _) | (with_reducible refine bstep ?_ (by with_reducible assumption)) | (with_reducible refine bturn ?_ (by with_reducible assumption) ?_) | go_size)))).mono ?_
  rintro e w1 ⟨rfl, hb1⟩
  have k1 := k0.step hb1
  have hb : Below w.heap.size w w1 := by (repeat' (first | (with_reducible exact Below.refl _ _) | (with_reducible assumption) | (with_reducible refine balloc ?_ _) | (with_reducible refine Below.drew ?_) | (with_reducible refine bset ?_ ?_ _) | (with_reducible refine bstep ?_ (by with_reducible assumption)) | (with_reducible refine bturn ?_ (by with_reducible assumption) ?_) | go_size))
  clear k0 hb1
  have hlu := k1.lt; have hllu := lts hlu; have qu0 := k1.cell 0; have qu1 := k1.cell 1; have qu2 := k1.cell 2; have qu3 := k1.cell 3; have qu4 := k1.cell 4; have qu5 := k1.cell 5; have qu6 := k1.cell 6; have qu7 := k1.cell 7; have qu8 := k1.cell 8; have qu9 := k1.cell 9; have qu10 := k1.cell 10; have qu11 := k1.cell 11; have qu12 := k1.cell 12; simp at qu0 qu1 qu2 qu3 qu4 qu5 qu6 qu7 qu8 qu9 qu10 qu11 qu12; have zu0 := k1.frozen 0; have zu1 := k1.frozen 1; have zu2 := k1.frozen 2; have zu3 := k1.frozen 3; have zu4 := k1.frozen 4; have zu5 := k1.frozen 5; have zu6 := k1.frozen 6; have zu7 := k1.frozen 7; have zu8 := k1.frozen 8; have zu9 := k1.frozen 9; have zu10 := k1.frozen 10; have zu11 := k1.frozen 11; have zu12 := k1.frozen 12; have Hk1 := Lib.hid k1; clear k1
  go_wp2_with fail
  go_returns
  exact ⟨rfl, by (repeat' (first | (with_reducible exact Below.refl _ _) | (with_reducible assumption) | (with_reducible refine balloc ?_ _) | (with_reducible refine Below.drew ?_) | (with_reducible refine bset ?_ ?_ _) | (with_reducible refine bstep ?_ (by with_reducible assumption)) | (with_reducible refine bturn ?_ (by with_reducible assumption) ?_) | go_size))⟩
set_option maxHeartbeats 8000000 in
set_option maxRecDepth 100000 in
theorem wr_3 (ol oh : Bool) (hl : lo.size ≤ 1000) (KT : Hid (∀ W, Below w.heap.size w W → Calls Tryz.prog 92 #[.agg #[.int .i64 lk, .int .i64 ln, .int .i64 ls, .string lq, .int .i64 lm]] W fun e w' => e = .returned (.tuple #[.string lo, .int .i64 0]) ∧ Below W.heap.size W w')) :
    Calls Tryz.prog 56 #[.agg #[.int .i64 3, .int .i64 lk, .int .i64 ln, .int .i64 ls, .string lq, .int .i64 lm, .int .i64 xk, .int .i64 xn, .int .i64 xs, .string xq, .int .i64 xm, .bool ol, .bool oh]] w fun e w' => e = .returned (.string (⟨#[60, 61, 32]⟩ ++ lo)) ∧ Below w.heap.size w w' := by
  have hl1 : 3 + lo.size ≤ 9223372036854775807 := by omega
  have k0 : Blk (w.alloc (.cells #[.int .i64 3, .int .i64 lk, .int .i64 ln, .int .i64 ls, .string lq, .int .i64 lm, .int .i64 xk, .int .i64 xn, .int .i64 xs, .string xq, .int .i64 xm, .bool ol, .bool oh] 82)) w.heap.size 82 #[.int .i64 3, .int .i64 lk, .int .i64 ln, .int .i64 ls, .string lq, .int .i64 lm, .int .i64 xk, .int .i64 xn, .int .i64 xs, .string xq, .int .i64 xm, .bool ol, .bool oh] := Blk.new _ _ _
  go_enter Tryz.func56, Tryz.ntmps56
  go_wp2_with fail
  refine (KT.out _ (by (repeat' (first | (with_reducible exact Below.refl _ _) | (with_reducible assumption) | (with_reducible refine balloc ?_ _) | (with_reducible refine Below.drew ?_) | (with_reducible refine bset ?_ ?_ _) | (with_reducible refine bstep ?_ (by with_reducible assumption)) | (with_reducible refine bturn ?_ (by with_reducible assumption) ?_) | go_size)))).mono ?_
  rintro e w1 ⟨rfl, hb1⟩
  have k1 := k0.step hb1
  have hb : Below w.heap.size w w1 := by (repeat' (first | (with_reducible exact Below.refl _ _) | (with_reducible assumption) | (with_reducible refine balloc ?_ _) | (with_reducible refine Below.drew ?_) | (with_reducible refine bset ?_ ?_ _) | (with_reducible refine bstep ?_ (by with_reducible assumption)) | (with_reducible refine bturn ?_ (by with_reducible assumption) ?_) | go_size))
  clear k0 hb1
  have hlu := k1.lt; have hllu := lts hlu; have qu0 := k1.cell 0; have qu1 := k1.cell 1; have qu2 := k1.cell 2; have qu3 := k1.cell 3; have qu4 := k1.cell 4; have qu5 := k1.cell 5; have qu6 := k1.cell 6; have qu7 := k1.cell 7; have qu8 := k1.cell 8; have qu9 := k1.cell 9; have qu10 := k1.cell 10; have qu11 := k1.cell 11; have qu12 := k1.cell 12; simp at qu0 qu1 qu2 qu3 qu4 qu5 qu6 qu7 qu8 qu9 qu10 qu11 qu12; have zu0 := k1.frozen 0; have zu1 := k1.frozen 1; have zu2 := k1.frozen 2; have zu3 := k1.frozen 3; have zu4 := k1.frozen 4; have zu5 := k1.frozen 5; have zu6 := k1.frozen 6; have zu7 := k1.frozen 7; have zu8 := k1.frozen 8; have zu9 := k1.frozen 9; have zu10 := k1.frozen 10; have zu11 := k1.frozen 11; have zu12 := k1.frozen 12; have Hk1 := Lib.hid k1; clear k1
  go_wp2_with fail
  go_returns
  exact ⟨rfl, by (repeat' (first | (with_reducible exact Below.refl _ _) | (with_reducible assumption) | (with_reducible refine balloc ?_ _) | (with_reducible refine Below.drew ?_) | (with_reducible refine bset ?_ ?_ _) | (with_reducible refine bstep ?_ (by with_reducible assumption)) | (with_reducible refine bturn ?_ (by with_reducible assumption) ?_) | go_size))⟩
set_option maxHeartbeats 8000000 in
set_option maxRecDepth 100000 in
theorem wr_4 (ol oh : Bool) (hl : lo.size ≤ 1000) (KT : Hid (∀ W, Below w.heap.size w W → Calls Tryz.prog 92 #[.agg #[.int .i64 lk, .int .i64 ln, .int .i64 ls, .string lq, .int .i64 lm]] W fun e w' => e = .returned (.tuple #[.string lo, .int .i64 0]) ∧ Below W.heap.size W w')) :
    Calls Tryz.prog 56 #[.agg #[.int .i64 4, .int .i64 lk, .int .i64 ln, .int .i64 ls, .string lq, .int .i64 lm, .int .i64 xk, .int .i64 xn, .int .i64 xs, .string xq, .int .i64 xm, .bool ol, .bool oh]] w fun e w' => e = .returned (.string (⟨#[62, 32]⟩ ++ lo)) ∧ Below w.heap.size w w' := by
  have hl1 : 2 + lo.size ≤ 9223372036854775807 := by omega
  have k0 : Blk (w.alloc (.cells #[.int .i64 4, .int .i64 lk, .int .i64 ln, .int .i64 ls, .string lq, .int .i64 lm, .int .i64 xk, .int .i64 xn, .int .i64 xs, .string xq, .int .i64 xm, .bool ol, .bool oh] 82)) w.heap.size 82 #[.int .i64 4, .int .i64 lk, .int .i64 ln, .int .i64 ls, .string lq, .int .i64 lm, .int .i64 xk, .int .i64 xn, .int .i64 xs, .string xq, .int .i64 xm, .bool ol, .bool oh] := Blk.new _ _ _
  go_enter Tryz.func56, Tryz.ntmps56
  go_wp2_with fail
  refine (KT.out _ (by (repeat' (first | (with_reducible exact Below.refl _ _) | (with_reducible assumption) | (with_reducible refine balloc ?_ _) | (with_reducible refine Below.drew ?_) | (with_reducible refine bset ?_ ?_ _) | (with_reducible refine bstep ?_ (by with_reducible assumption)) | (with_reducible refine bturn ?_ (by with_reducible assumption) ?_) | go_size)))).mono ?_
  rintro e w1 ⟨rfl, hb1⟩
  have k1 := k0.step hb1
  have hb : Below w.heap.size w w1 := by (repeat' (first | (with_reducible exact Below.refl _ _) | (with_reducible assumption) | (with_reducible refine balloc ?_ _) | (with_reducible refine Below.drew ?_) | (with_reducible refine bset ?_ ?_ _) | (with_reducible refine bstep ?_ (by with_reducible assumption)) | (with_reducible refine bturn ?_ (by with_reducible assumption) ?_) | go_size))
  clear k0 hb1
  have hlu := k1.lt; have hllu := lts hlu; have qu0 := k1.cell 0; have qu1 := k1.cell 1; have qu2 := k1.cell 2; have qu3 := k1.cell 3; have qu4 := k1.cell 4; have qu5 := k1.cell 5; have qu6 := k1.cell 6; have qu7 := k1.cell 7; have qu8 := k1.cell 8; have qu9 := k1.cell 9; have qu10 := k1.cell 10; have qu11 := k1.cell 11; have qu12 := k1.cell 12; simp at qu0 qu1 qu2 qu3 qu4 qu5 qu6 qu7 qu8 qu9 qu10 qu11 qu12; have zu0 := k1.frozen 0; have zu1 := k1.frozen 1; have zu2 := k1.frozen 2; have zu3 := k1.frozen 3; have zu4 := k1.frozen 4; have zu5 := k1.frozen 5; have zu6 := k1.frozen 6; have zu7 := k1.frozen 7; have zu8 := k1.frozen 8; have zu9 := k1.frozen 9; have zu10 := k1.frozen 10; have zu11 := k1.frozen 11; have zu12 := k1.frozen 12; have Hk1 := Lib.hid k1; clear k1
  go_wp2_with fail
  go_returns
  exact ⟨rfl, by (repeat' (first | (with_reducible exact Below.refl _ _) | (with_reducible assumption) | (with_reducible refine balloc ?_ _) | (with_reducible refine Below.drew ?_) | (with_reducible refine bset ?_ ?_ _) | (with_reducible refine bstep ?_ (by with_reducible assumption)) | (with_reducible refine bturn ?_ (by with_reducible assumption) ?_) | go_size))⟩
set_option maxHeartbeats 8000000 in
set_option maxRecDepth 100000 in
theorem wr_5 (ol oh : Bool) (hl : lo.size ≤ 1000) (KT : Hid (∀ W, Below w.heap.size w W → Calls Tryz.prog 92 #[.agg #[.int .i64 lk, .int .i64 ln, .int .i64 ls, .string lq, .int .i64 lm]] W fun e w' => e = .returned (.tuple #[.string lo, .int .i64 0]) ∧ Below W.heap.size W w')) :
    Calls Tryz.prog 56 #[.agg #[.int .i64 5, .int .i64 lk, .int .i64 ln, .int .i64 ls, .string lq, .int .i64 lm, .int .i64 xk, .int .i64 xn, .int .i64 xs, .string xq, .int .i64 xm, .bool ol, .bool oh]] w fun e w' => e = .returned (.string (⟨#[62, 61, 32]⟩ ++ lo)) ∧ Below w.heap.size w w' := by
  have hl1 : 3 + lo.size ≤ 9223372036854775807 := by omega
  have k0 : Blk (w.alloc (.cells #[.int .i64 5, .int .i64 lk, .int .i64 ln, .int .i64 ls, .string lq, .int .i64 lm, .int .i64 xk, .int .i64 xn, .int .i64 xs, .string xq, .int .i64 xm, .bool ol, .bool oh] 82)) w.heap.size 82 #[.int .i64 5, .int .i64 lk, .int .i64 ln, .int .i64 ls, .string lq, .int .i64 lm, .int .i64 xk, .int .i64 xn, .int .i64 xs, .string xq, .int .i64 xm, .bool ol, .bool oh] := Blk.new _ _ _
  go_enter Tryz.func56, Tryz.ntmps56
  go_wp2_with fail
  refine (KT.out _ (by (repeat' (first | (with_reducible exact Below.refl _ _) | (with_reducible assumption) | (with_reducible refine balloc ?_ _) | (with_reducible refine Below.drew ?_) | (with_reducible refine bset ?_ ?_ _) | (with_reducible refine bstep ?_ (by with_reducible assumption)) | (with_reducible refine bturn ?_ (by with_reducible assumption) ?_) | go_size)))).mono ?_
  rintro e w1 ⟨rfl, hb1⟩
  have k1 := k0.step hb1
  have hb : Below w.heap.size w w1 := by (repeat' (first | (with_reducible exact Below.refl _ _) | (with_reducible assumption) | (with_reducible refine balloc ?_ _) | (with_reducible refine Below.drew ?_) | (with_reducible refine bset ?_ ?_ _) | (with_reducible refine bstep ?_ (by with_reducible assumption)) | (with_reducible refine bturn ?_ (by with_reducible assumption) ?_) | go_size))
  clear k0 hb1
  have hlu := k1.lt; have hllu := lts hlu; have qu0 := k1.cell 0; have qu1 := k1.cell 1; have qu2 := k1.cell 2; have qu3 := k1.cell 3; have qu4 := k1.cell 4; have qu5 := k1.cell 5; have qu6 := k1.cell 6; have qu7 := k1.cell 7; have qu8 := k1.cell 8; have qu9 := k1.cell 9; have qu10 := k1.cell 10; have qu11 := k1.cell 11; have qu12 := k1.cell 12; simp at qu0 qu1 qu2 qu3 qu4 qu5 qu6 qu7 qu8 qu9 qu10 qu11 qu12; have zu0 := k1.frozen 0; have zu1 := k1.frozen 1; have zu2 := k1.frozen 2; have zu3 := k1.frozen 3; have zu4 := k1.frozen 4; have zu5 := k1.frozen 5; have zu6 := k1.frozen 6; have zu7 := k1.frozen 7; have zu8 := k1.frozen 8; have zu9 := k1.frozen 9; have zu10 := k1.frozen 10; have zu11 := k1.frozen 11; have zu12 := k1.frozen 12; have Hk1 := Lib.hid k1; clear k1
  go_wp2_with fail
  go_returns
  exact ⟨rfl, by (repeat' (first | (with_reducible exact Below.refl _ _) | (with_reducible assumption) | (with_reducible refine balloc ?_ _) | (with_reducible refine Below.drew ?_) | (with_reducible refine bset ?_ ?_ _) | (with_reducible refine bstep ?_ (by with_reducible assumption)) | (with_reducible refine bturn ?_ (by with_reducible assumption) ?_) | go_size))⟩
set_option maxHeartbeats 8000000 in
set_option maxRecDepth 100000 in
theorem wr_6ff (hl : lo.size ≤ 1000) (hh : hi.size ≤ 1000) (KT : Hid (∀ W, Below w.heap.size w W → Calls Tryz.prog 92 #[.agg #[.int .i64 lk, .int .i64 ln, .int .i64 ls, .string lq, .int .i64 lm]] W fun e w' => e = .returned (.tuple #[.string lo, .int .i64 0]) ∧ Below W.heap.size W w')) (KH : Hid (∀ W, Below w.heap.size w W → Calls Tryz.prog 92 #[.agg #[.int .i64 xk, .int .i64 xn, .int .i64 xs, .string xq, .int .i64 xm]] W fun e w' => e = .returned (.tuple #[.string hi, .int .i64 0]) ∧ Below W.heap.size W w')) :
    Calls Tryz.prog 56 #[.agg #[.int .i64 6, .int .i64 lk, .int .i64 ln, .int .i64 ls, .string lq, .int .i64 lm, .int .i64 xk, .int .i64 xn, .int .i64 xs, .string xq, .int .i64 xm, .bool false, .bool false]] w fun e w' => e = .returned (.string (((((⟨#[91]⟩ ++ lo) ++ ⟨#[46, 46]⟩) ++ hi) ++ ⟨#[93]⟩))) ∧ Below w.heap.size w w' := by
  have e1 : 1 + lo.size ≤ 9223372036854775807 := by omega
  have e2 : ((⟨#[91]⟩ : ByteArray) ++ lo).size + 2 ≤ 9223372036854775807 := by rw [ByteArray.size_append]; show 1 + lo.size + 2 ≤ _; omega
  have e3 : (((⟨#[91]⟩ : ByteArray) ++ lo) ++ ⟨#[46, 46]⟩).size + hi.size ≤ 9223372036854775807 := by rw [ByteArray.size_append, ByteArray.size_append]; show 1 + lo.size + 2 + hi.size ≤ _; omega
  have e4 : ((((⟨#[91]⟩ : ByteArray) ++ lo) ++ ⟨#[46, 46]⟩) ++ hi).size + 1 ≤ 9223372036854775807 := by rw [ByteArray.size_append, ByteArray.size_append, ByteArray.size_append]; show 1 + lo.size + 2 + hi.size + 1 ≤ _; omega
  have f2 : 1 + lo.size + 2 ≤ 9223372036854775807 := by omega
  have f3 : 1 + lo.size + 2 + hi.size ≤ 9223372036854775807 := by omega
  have f4 : 1 + lo.size + 2 + hi.size + 1 ≤ 9223372036854775807 := by omega
  have k0 : Blk (w.alloc (.cells #[.int .i64 6, .int .i64 lk, .int .i64 ln, .int .i64 ls, .string lq, .int .i64 lm, .int .i64 xk, .int .i64 xn, .int .i64 xs, .string xq, .int .i64 xm, .bool false, .bool false] 82)) w.heap.size 82 #[.int .i64 6, .int .i64 lk, .int .i64 ln, .int .i64 ls, .string lq, .int .i64 lm, .int .i64 xk, .int .i64 xn, .int .i64 xs, .string xq, .int .i64 xm, .bool false, .bool false] := Blk.new _ _ _
  go_enter Tryz.func56, Tryz.ntmps56
  go_wp2_with fail
  refine (KT.out _ (by (repeat' (first | (with_reducible exact Below.refl _ _) | (with_reducible assumption) | (with_reducible refine balloc ?_ _) | (with_reducible refine Below.drew ?_) | (with_reducible refine bset ?_ ?_ _) | (with_reducible refine bstep ?_ (by with_reducible assumption)) | (with_reducible refine bturn ?_ (by with_reducible assumption) ?_) | go_size)))).mono ?_
  rintro e w1 ⟨rfl, hb1⟩
  have k1 := k0.step hb1
  have hb : Below w.heap.size w w1 := by (repeat' (first | (with_reducible exact Below.refl _ _) | (with_reducible assumption) | (with_reducible refine balloc ?_ _) | (with_reducible refine Below.drew ?_) | (with_reducible refine bset ?_ ?_ _) | (with_reducible refine bstep ?_ (by with_reducible assumption)) | (with_reducible refine bturn ?_ (by with_reducible assumption) ?_) | go_size))
  clear k0 hb1
  have K1 := Lib.hid k1
  have hlu := k1.lt; have hllu := lts hlu; have qu0 := k1.cell 0; have qu1 := k1.cell 1; have qu2 := k1.cell 2; have qu3 := k1.cell 3; have qu4 := k1.cell 4; have qu5 := k1.cell 5; have qu6 := k1.cell 6; have qu7 := k1.cell 7; have qu8 := k1.cell 8; have qu9 := k1.cell 9; have qu10 := k1.cell 10; have qu11 := k1.cell 11; have qu12 := k1.cell 12; simp at qu0 qu1 qu2 qu3 qu4 qu5 qu6 qu7 qu8 qu9 qu10 qu11 qu12; have zu0 := k1.frozen 0; have zu1 := k1.frozen 1; have zu2 := k1.frozen 2; have zu3 := k1.frozen 3; have zu4 := k1.frozen 4; have zu5 := k1.frozen 5; have zu6 := k1.frozen 6; have zu7 := k1.frozen 7; have zu8 := k1.frozen 8; have zu9 := k1.frozen 9; have zu10 := k1.frozen 10; have zu11 := k1.frozen 11; have zu12 := k1.frozen 12; have Hk1 := Lib.hid k1; clear k1
  go_wp2_with fail
  refine (KH.out _ (by (repeat' (first | (with_reducible exact Below.refl _ _) | (with_reducible assumption) | (with_reducible refine balloc ?_ _) | (with_reducible refine Below.drew ?_) | (with_reducible refine bset ?_ ?_ _) | (with_reducible refine bstep ?_ (by with_reducible assumption)) | (with_reducible refine bturn ?_ (by with_reducible assumption) ?_) | go_size)))).mono ?_
  rintro e w2 ⟨rfl, hb2⟩
  have k2 := K1.out.step hb2
  have hb02 : Below w.heap.size w w2 := by (repeat' (first | (with_reducible exact Below.refl _ _) | (with_reducible assumption) | (with_reducible refine balloc ?_ _) | (with_reducible refine Below.drew ?_) | (with_reducible refine bset ?_ ?_ _) | (with_reducible refine bstep ?_ (by with_reducible assumption)) | (with_reducible refine bturn ?_ (by with_reducible assumption) ?_) | go_size))
  clear qu0 qu1 qu2 qu3 qu4 qu5 qu6 qu7 qu8 qu9 qu10 qu11 qu12 zu0 zu1 zu2 zu3 zu4 zu5 zu6 zu7 zu8 zu9 zu10 zu11 zu12 hlu hllu hb2
  have hlu := k2.lt; have hllu := lts hlu; have qu0 := k2.cell 0; have qu1 := k2.cell 1; have qu2 := k2.cell 2; have qu3 := k2.cell 3; have qu4 := k2.cell 4; have qu5 := k2.cell 5; have qu6 := k2.cell 6; have qu7 := k2.cell 7; have qu8 := k2.cell 8; have qu9 := k2.cell 9; have qu10 := k2.cell 10; have qu11 := k2.cell 11; have qu12 := k2.cell 12; simp at qu0 qu1 qu2 qu3 qu4 qu5 qu6 qu7 qu8 qu9 qu10 qu11 qu12; have zu0 := k2.frozen 0; have zu1 := k2.frozen 1; have zu2 := k2.frozen 2; have zu3 := k2.frozen 3; have zu4 := k2.frozen 4; have zu5 := k2.frozen 5; have zu6 := k2.frozen 6; have zu7 := k2.frozen 7; have zu8 := k2.frozen 8; have zu9 := k2.frozen 9; have zu10 := k2.frozen 10; have zu11 := k2.frozen 11; have zu12 := k2.frozen 12; have Hk2 := Lib.hid k2; clear k2
  go_wp2_with fail
  go_returns
  exact ⟨rfl, by (repeat' (first | (with_reducible exact Below.refl _ _) | (with_reducible assumption) | (with_reducible refine balloc ?_ _) | (with_reducible refine Below.drew ?_) | (with_reducible refine bset ?_ ?_ _) | (with_reducible refine bstep ?_ (by with_reducible assumption)) | (with_reducible refine bturn ?_ (by with_reducible assumption) ?_) | go_size))⟩
set_option maxHeartbeats 8000000 in
set_option maxRecDepth 100000 in
theorem wr_6ft (hl : lo.size ≤ 1000) (hh : hi.size ≤ 1000) (KT : Hid (∀ W, Below w.heap.size w W → Calls Tryz.prog 92 #[.agg #[.int .i64 lk, .int .i64 ln, .int .i64 ls, .string lq, .int .i64 lm]] W fun e w' => e = .returned (.tuple #[.string lo, .int .i64 0]) ∧ Below W.heap.size W w')) (KH : Hid (∀ W, Below w.heap.size w W → Calls Tryz.prog 92 #[.agg #[.int .i64 xk, .int .i64 xn, .int .i64 xs, .string xq, .int .i64 xm]] W fun e w' => e = .returned (.tuple #[.string hi, .int .i64 0]) ∧ Below W.heap.size W w')) :
    Calls Tryz.prog 56 #[.agg #[.int .i64 6, .int .i64 lk, .int .i64 ln, .int .i64 ls, .string lq, .int .i64 lm, .int .i64 xk, .int .i64 xn, .int .i64 xs, .string xq, .int .i64 xm, .bool false, .bool true]] w fun e w' => e = .returned (.string (((((⟨#[91]⟩ ++ lo) ++ ⟨#[46, 46]⟩) ++ hi) ++ ⟨#[41]⟩))) ∧ Below w.heap.size w w' := by
  have e1 : 1 + lo.size ≤ 9223372036854775807 := by omega
  have e2 : ((⟨#[91]⟩ : ByteArray) ++ lo).size + 2 ≤ 9223372036854775807 := by rw [ByteArray.size_append]; show 1 + lo.size + 2 ≤ _; omega
  have e3 : (((⟨#[91]⟩ : ByteArray) ++ lo) ++ ⟨#[46, 46]⟩).size + hi.size ≤ 9223372036854775807 := by rw [ByteArray.size_append, ByteArray.size_append]; show 1 + lo.size + 2 + hi.size ≤ _; omega
  have e4 : ((((⟨#[91]⟩ : ByteArray) ++ lo) ++ ⟨#[46, 46]⟩) ++ hi).size + 1 ≤ 9223372036854775807 := by rw [ByteArray.size_append, ByteArray.size_append, ByteArray.size_append]; show 1 + lo.size + 2 + hi.size + 1 ≤ _; omega
  have f2 : 1 + lo.size + 2 ≤ 9223372036854775807 := by omega
  have f3 : 1 + lo.size + 2 + hi.size ≤ 9223372036854775807 := by omega
  have f4 : 1 + lo.size + 2 + hi.size + 1 ≤ 9223372036854775807 := by omega
  have k0 : Blk (w.alloc (.cells #[.int .i64 6, .int .i64 lk, .int .i64 ln, .int .i64 ls, .string lq, .int .i64 lm, .int .i64 xk, .int .i64 xn, .int .i64 xs, .string xq, .int .i64 xm, .bool false, .bool true] 82)) w.heap.size 82 #[.int .i64 6, .int .i64 lk, .int .i64 ln, .int .i64 ls, .string lq, .int .i64 lm, .int .i64 xk, .int .i64 xn, .int .i64 xs, .string xq, .int .i64 xm, .bool false, .bool true] := Blk.new _ _ _
  go_enter Tryz.func56, Tryz.ntmps56
  go_wp2_with fail
  refine (KT.out _ (by (repeat' (first | (with_reducible exact Below.refl _ _) | (with_reducible assumption) | (with_reducible refine balloc ?_ _) | (with_reducible refine Below.drew ?_) | (with_reducible refine bset ?_ ?_ _) | (with_reducible refine bstep ?_ (by with_reducible assumption)) | (with_reducible refine bturn ?_ (by with_reducible assumption) ?_) | go_size)))).mono ?_
  rintro e w1 ⟨rfl, hb1⟩
  have k1 := k0.step hb1
  have hb : Below w.heap.size w w1 := by (repeat' (first | (with_reducible exact Below.refl _ _) | (with_reducible assumption) | (with_reducible refine balloc ?_ _) | (with_reducible refine Below.drew ?_) | (with_reducible refine bset ?_ ?_ _) | (with_reducible refine bstep ?_ (by with_reducible assumption)) | (with_reducible refine bturn ?_ (by with_reducible assumption) ?_) | go_size))
  clear k0 hb1
  have K1 := Lib.hid k1
  have hlu := k1.lt; have hllu := lts hlu; have qu0 := k1.cell 0; have qu1 := k1.cell 1; have qu2 := k1.cell 2; have qu3 := k1.cell 3; have qu4 := k1.cell 4; have qu5 := k1.cell 5; have qu6 := k1.cell 6; have qu7 := k1.cell 7; have qu8 := k1.cell 8; have qu9 := k1.cell 9; have qu10 := k1.cell 10; have qu11 := k1.cell 11; have qu12 := k1.cell 12; simp at qu0 qu1 qu2 qu3 qu4 qu5 qu6 qu7 qu8 qu9 qu10 qu11 qu12; have zu0 := k1.frozen 0; have zu1 := k1.frozen 1; have zu2 := k1.frozen 2; have zu3 := k1.frozen 3; have zu4 := k1.frozen 4; have zu5 := k1.frozen 5; have zu6 := k1.frozen 6; have zu7 := k1.frozen 7; have zu8 := k1.frozen 8; have zu9 := k1.frozen 9; have zu10 := k1.frozen 10; have zu11 := k1.frozen 11; have zu12 := k1.frozen 12; have Hk1 := Lib.hid k1; clear k1
  go_wp2_with fail
  refine (KH.out _ (by (repeat' (first | (with_reducible exact Below.refl _ _) | (with_reducible assumption) | (with_reducible refine balloc ?_ _) | (with_reducible refine Below.drew ?_) | (with_reducible refine bset ?_ ?_ _) | (with_reducible refine bstep ?_ (by with_reducible assumption)) | (with_reducible refine bturn ?_ (by with_reducible assumption) ?_) | go_size)))).mono ?_
  rintro e w2 ⟨rfl, hb2⟩
  have k2 := K1.out.step hb2
  have hb02 : Below w.heap.size w w2 := by (repeat' (first | (with_reducible exact Below.refl _ _) | (with_reducible assumption) | (with_reducible refine balloc ?_ _) | (with_reducible refine Below.drew ?_) | (with_reducible refine bset ?_ ?_ _) | (with_reducible refine bstep ?_ (by with_reducible assumption)) | (with_reducible refine bturn ?_ (by with_reducible assumption) ?_) | go_size))
  clear qu0 qu1 qu2 qu3 qu4 qu5 qu6 qu7 qu8 qu9 qu10 qu11 qu12 zu0 zu1 zu2 zu3 zu4 zu5 zu6 zu7 zu8 zu9 zu10 zu11 zu12 hlu hllu hb2
  have hlu := k2.lt; have hllu := lts hlu; have qu0 := k2.cell 0; have qu1 := k2.cell 1; have qu2 := k2.cell 2; have qu3 := k2.cell 3; have qu4 := k2.cell 4; have qu5 := k2.cell 5; have qu6 := k2.cell 6; have qu7 := k2.cell 7; have qu8 := k2.cell 8; have qu9 := k2.cell 9; have qu10 := k2.cell 10; have qu11 := k2.cell 11; have qu12 := k2.cell 12; simp at qu0 qu1 qu2 qu3 qu4 qu5 qu6 qu7 qu8 qu9 qu10 qu11 qu12; have zu0 := k2.frozen 0; have zu1 := k2.frozen 1; have zu2 := k2.frozen 2; have zu3 := k2.frozen 3; have zu4 := k2.frozen 4; have zu5 := k2.frozen 5; have zu6 := k2.frozen 6; have zu7 := k2.frozen 7; have zu8 := k2.frozen 8; have zu9 := k2.frozen 9; have zu10 := k2.frozen 10; have zu11 := k2.frozen 11; have zu12 := k2.frozen 12; have Hk2 := Lib.hid k2; clear k2
  go_wp2_with fail
  go_returns
  exact ⟨rfl, by (repeat' (first | (with_reducible exact Below.refl _ _) | (with_reducible assumption) | (with_reducible refine balloc ?_ _) | (with_reducible refine Below.drew ?_) | (with_reducible refine bset ?_ ?_ _) | (with_reducible refine bstep ?_ (by with_reducible assumption)) | (with_reducible refine bturn ?_ (by with_reducible assumption) ?_) | go_size))⟩
set_option maxHeartbeats 8000000 in
set_option maxRecDepth 100000 in
theorem wr_6tf (hl : lo.size ≤ 1000) (hh : hi.size ≤ 1000) (KT : Hid (∀ W, Below w.heap.size w W → Calls Tryz.prog 92 #[.agg #[.int .i64 lk, .int .i64 ln, .int .i64 ls, .string lq, .int .i64 lm]] W fun e w' => e = .returned (.tuple #[.string lo, .int .i64 0]) ∧ Below W.heap.size W w')) (KH : Hid (∀ W, Below w.heap.size w W → Calls Tryz.prog 92 #[.agg #[.int .i64 xk, .int .i64 xn, .int .i64 xs, .string xq, .int .i64 xm]] W fun e w' => e = .returned (.tuple #[.string hi, .int .i64 0]) ∧ Below W.heap.size W w')) :
    Calls Tryz.prog 56 #[.agg #[.int .i64 6, .int .i64 lk, .int .i64 ln, .int .i64 ls, .string lq, .int .i64 lm, .int .i64 xk, .int .i64 xn, .int .i64 xs, .string xq, .int .i64 xm, .bool true, .bool false]] w fun e w' => e = .returned (.string (((((⟨#[40]⟩ ++ lo) ++ ⟨#[46, 46]⟩) ++ hi) ++ ⟨#[93]⟩))) ∧ Below w.heap.size w w' := by
  have e1 : 1 + lo.size ≤ 9223372036854775807 := by omega
  have e2 : ((⟨#[40]⟩ : ByteArray) ++ lo).size + 2 ≤ 9223372036854775807 := by rw [ByteArray.size_append]; show 1 + lo.size + 2 ≤ _; omega
  have e3 : (((⟨#[40]⟩ : ByteArray) ++ lo) ++ ⟨#[46, 46]⟩).size + hi.size ≤ 9223372036854775807 := by rw [ByteArray.size_append, ByteArray.size_append]; show 1 + lo.size + 2 + hi.size ≤ _; omega
  have e4 : ((((⟨#[40]⟩ : ByteArray) ++ lo) ++ ⟨#[46, 46]⟩) ++ hi).size + 1 ≤ 9223372036854775807 := by rw [ByteArray.size_append, ByteArray.size_append, ByteArray.size_append]; show 1 + lo.size + 2 + hi.size + 1 ≤ _; omega
  have f2 : 1 + lo.size + 2 ≤ 9223372036854775807 := by omega
  have f3 : 1 + lo.size + 2 + hi.size ≤ 9223372036854775807 := by omega
  have f4 : 1 + lo.size + 2 + hi.size + 1 ≤ 9223372036854775807 := by omega
  have k0 : Blk (w.alloc (.cells #[.int .i64 6, .int .i64 lk, .int .i64 ln, .int .i64 ls, .string lq, .int .i64 lm, .int .i64 xk, .int .i64 xn, .int .i64 xs, .string xq, .int .i64 xm, .bool true, .bool false] 82)) w.heap.size 82 #[.int .i64 6, .int .i64 lk, .int .i64 ln, .int .i64 ls, .string lq, .int .i64 lm, .int .i64 xk, .int .i64 xn, .int .i64 xs, .string xq, .int .i64 xm, .bool true, .bool false] := Blk.new _ _ _
  go_enter Tryz.func56, Tryz.ntmps56
  go_wp2_with fail
  refine (KT.out _ (by (repeat' (first | (with_reducible exact Below.refl _ _) | (with_reducible assumption) | (with_reducible refine balloc ?_ _) | (with_reducible refine Below.drew ?_) | (with_reducible refine bset ?_ ?_ _) | (with_reducible refine bstep ?_ (by with_reducible assumption)) | (with_reducible refine bturn ?_ (by with_reducible assumption) ?_) | go_size)))).mono ?_
  rintro e w1 ⟨rfl, hb1⟩
  have k1 := k0.step hb1
  have hb : Below w.heap.size w w1 := by (repeat' (first | (with_reducible exact Below.refl _ _) | (with_reducible assumption) | (with_reducible refine balloc ?_ _) | (with_reducible refine Below.drew ?_) | (with_reducible refine bset ?_ ?_ _) | (with_reducible refine bstep ?_ (by with_reducible assumption)) | (with_reducible refine bturn ?_ (by with_reducible assumption) ?_) | go_size))
  clear k0 hb1
  have K1 := Lib.hid k1
  have hlu := k1.lt; have hllu := lts hlu; have qu0 := k1.cell 0; have qu1 := k1.cell 1; have qu2 := k1.cell 2; have qu3 := k1.cell 3; have qu4 := k1.cell 4; have qu5 := k1.cell 5; have qu6 := k1.cell 6; have qu7 := k1.cell 7; have qu8 := k1.cell 8; have qu9 := k1.cell 9; have qu10 := k1.cell 10; have qu11 := k1.cell 11; have qu12 := k1.cell 12; simp at qu0 qu1 qu2 qu3 qu4 qu5 qu6 qu7 qu8 qu9 qu10 qu11 qu12; have zu0 := k1.frozen 0; have zu1 := k1.frozen 1; have zu2 := k1.frozen 2; have zu3 := k1.frozen 3; have zu4 := k1.frozen 4; have zu5 := k1.frozen 5; have zu6 := k1.frozen 6; have zu7 := k1.frozen 7; have zu8 := k1.frozen 8; have zu9 := k1.frozen 9; have zu10 := k1.frozen 10; have zu11 := k1.frozen 11; have zu12 := k1.frozen 12; have Hk1 := Lib.hid k1; clear k1
  go_wp2_with fail
  refine (KH.out _ (by (repeat' (first | (with_reducible exact Below.refl _ _) | (with_reducible assumption) | (with_reducible refine balloc ?_ _) | (with_reducible refine Below.drew ?_) | (with_reducible refine bset ?_ ?_ _) | (with_reducible refine bstep ?_ (by with_reducible assumption)) | (with_reducible refine bturn ?_ (by with_reducible assumption) ?_) | go_size)))).mono ?_
  rintro e w2 ⟨rfl, hb2⟩
  have k2 := K1.out.step hb2
  have hb02 : Below w.heap.size w w2 := by (repeat' (first | (with_reducible exact Below.refl _ _) | (with_reducible assumption) | (with_reducible refine balloc ?_ _) | (with_reducible refine Below.drew ?_) | (with_reducible refine bset ?_ ?_ _) | (with_reducible refine bstep ?_ (by with_reducible assumption)) | (with_reducible refine bturn ?_ (by with_reducible assumption) ?_) | go_size))
  clear qu0 qu1 qu2 qu3 qu4 qu5 qu6 qu7 qu8 qu9 qu10 qu11 qu12 zu0 zu1 zu2 zu3 zu4 zu5 zu6 zu7 zu8 zu9 zu10 zu11 zu12 hlu hllu hb2
  have hlu := k2.lt; have hllu := lts hlu; have qu0 := k2.cell 0; have qu1 := k2.cell 1; have qu2 := k2.cell 2; have qu3 := k2.cell 3; have qu4 := k2.cell 4; have qu5 := k2.cell 5; have qu6 := k2.cell 6; have qu7 := k2.cell 7; have qu8 := k2.cell 8; have qu9 := k2.cell 9; have qu10 := k2.cell 10; have qu11 := k2.cell 11; have qu12 := k2.cell 12; simp at qu0 qu1 qu2 qu3 qu4 qu5 qu6 qu7 qu8 qu9 qu10 qu11 qu12; have zu0 := k2.frozen 0; have zu1 := k2.frozen 1; have zu2 := k2.frozen 2; have zu3 := k2.frozen 3; have zu4 := k2.frozen 4; have zu5 := k2.frozen 5; have zu6 := k2.frozen 6; have zu7 := k2.frozen 7; have zu8 := k2.frozen 8; have zu9 := k2.frozen 9; have zu10 := k2.frozen 10; have zu11 := k2.frozen 11; have zu12 := k2.frozen 12; have Hk2 := Lib.hid k2; clear k2
  go_wp2_with fail
  go_returns
  exact ⟨rfl, by (repeat' (first | (with_reducible exact Below.refl _ _) | (with_reducible assumption) | (with_reducible refine balloc ?_ _) | (with_reducible refine Below.drew ?_) | (with_reducible refine bset ?_ ?_ _) | (with_reducible refine bstep ?_ (by with_reducible assumption)) | (with_reducible refine bturn ?_ (by with_reducible assumption) ?_) | go_size))⟩
set_option maxHeartbeats 8000000 in
set_option maxRecDepth 100000 in
theorem wr_6tt (hl : lo.size ≤ 1000) (hh : hi.size ≤ 1000) (KT : Hid (∀ W, Below w.heap.size w W → Calls Tryz.prog 92 #[.agg #[.int .i64 lk, .int .i64 ln, .int .i64 ls, .string lq, .int .i64 lm]] W fun e w' => e = .returned (.tuple #[.string lo, .int .i64 0]) ∧ Below W.heap.size W w')) (KH : Hid (∀ W, Below w.heap.size w W → Calls Tryz.prog 92 #[.agg #[.int .i64 xk, .int .i64 xn, .int .i64 xs, .string xq, .int .i64 xm]] W fun e w' => e = .returned (.tuple #[.string hi, .int .i64 0]) ∧ Below W.heap.size W w')) :
    Calls Tryz.prog 56 #[.agg #[.int .i64 6, .int .i64 lk, .int .i64 ln, .int .i64 ls, .string lq, .int .i64 lm, .int .i64 xk, .int .i64 xn, .int .i64 xs, .string xq, .int .i64 xm, .bool true, .bool true]] w fun e w' => e = .returned (.string (((((⟨#[40]⟩ ++ lo) ++ ⟨#[46, 46]⟩) ++ hi) ++ ⟨#[41]⟩))) ∧ Below w.heap.size w w' := by
  have e1 : 1 + lo.size ≤ 9223372036854775807 := by omega
  have e2 : ((⟨#[40]⟩ : ByteArray) ++ lo).size + 2 ≤ 9223372036854775807 := by rw [ByteArray.size_append]; show 1 + lo.size + 2 ≤ _; omega
  have e3 : (((⟨#[40]⟩ : ByteArray) ++ lo) ++ ⟨#[46, 46]⟩).size + hi.size ≤ 9223372036854775807 := by rw [ByteArray.size_append, ByteArray.size_append]; show 1 + lo.size + 2 + hi.size ≤ _; omega
  have e4 : ((((⟨#[40]⟩ : ByteArray) ++ lo) ++ ⟨#[46, 46]⟩) ++ hi).size + 1 ≤ 9223372036854775807 := by rw [ByteArray.size_append, ByteArray.size_append, ByteArray.size_append]; show 1 + lo.size + 2 + hi.size + 1 ≤ _; omega
  have f2 : 1 + lo.size + 2 ≤ 9223372036854775807 := by omega
  have f3 : 1 + lo.size + 2 + hi.size ≤ 9223372036854775807 := by omega
  have f4 : 1 + lo.size + 2 + hi.size + 1 ≤ 9223372036854775807 := by omega
  have k0 : Blk (w.alloc (.cells #[.int .i64 6, .int .i64 lk, .int .i64 ln, .int .i64 ls, .string lq, .int .i64 lm, .int .i64 xk, .int .i64 xn, .int .i64 xs, .string xq, .int .i64 xm, .bool true, .bool true] 82)) w.heap.size 82 #[.int .i64 6, .int .i64 lk, .int .i64 ln, .int .i64 ls, .string lq, .int .i64 lm, .int .i64 xk, .int .i64 xn, .int .i64 xs, .string xq, .int .i64 xm, .bool true, .bool true] := Blk.new _ _ _
  go_enter Tryz.func56, Tryz.ntmps56
  go_wp2_with fail
  refine (KT.out _ (by (repeat' (first | (with_reducible exact Below.refl _ _) | (with_reducible assumption) | (with_reducible refine balloc ?_ _) | (with_reducible refine Below.drew ?_) | (with_reducible refine bset ?_ ?_ _) | (with_reducible refine bstep ?_ (by with_reducible assumption)) | (with_reducible refine bturn ?_ (by with_reducible assumption) ?_) | go_size)))).mono ?_
  rintro e w1 ⟨rfl, hb1⟩
  have k1 := k0.step hb1
  have hb : Below w.heap.size w w1 := by (repeat' (first | (with_reducible exact Below.refl _ _) | (with_reducible assumption) | (with_reducible refine balloc ?_ _) | (with_reducible refine Below.drew ?_) | (with_reducible refine bset ?_ ?_ _) | (with_reducible refine bstep ?_ (by with_reducible assumption)) | (with_reducible refine bturn ?_ (by with_reducible assumption) ?_) | go_size))
  clear k0 hb1
  have K1 := Lib.hid k1
  have hlu := k1.lt; have hllu := lts hlu; have qu0 := k1.cell 0; have qu1 := k1.cell 1; have qu2 := k1.cell 2; have qu3 := k1.cell 3; have qu4 := k1.cell 4; have qu5 := k1.cell 5; have qu6 := k1.cell 6; have qu7 := k1.cell 7; have qu8 := k1.cell 8; have qu9 := k1.cell 9; have qu10 := k1.cell 10; have qu11 := k1.cell 11; have qu12 := k1.cell 12; simp at qu0 qu1 qu2 qu3 qu4 qu5 qu6 qu7 qu8 qu9 qu10 qu11 qu12; have zu0 := k1.frozen 0; have zu1 := k1.frozen 1; have zu2 := k1.frozen 2; have zu3 := k1.frozen 3; have zu4 := k1.frozen 4; have zu5 := k1.frozen 5; have zu6 := k1.frozen 6; have zu7 := k1.frozen 7; have zu8 := k1.frozen 8; have zu9 := k1.frozen 9; have zu10 := k1.frozen 10; have zu11 := k1.frozen 11; have zu12 := k1.frozen 12; have Hk1 := Lib.hid k1; clear k1
  go_wp2_with fail
  refine (KH.out _ (by (repeat' (first | (with_reducible exact Below.refl _ _) | (with_reducible assumption) | (with_reducible refine balloc ?_ _) | (with_reducible refine Below.drew ?_) | (with_reducible refine bset ?_ ?_ _) | (with_reducible refine bstep ?_ (by with_reducible assumption)) | (with_reducible refine bturn ?_ (by with_reducible assumption) ?_) | go_size)))).mono ?_
  rintro e w2 ⟨rfl, hb2⟩
  have k2 := K1.out.step hb2
  have hb02 : Below w.heap.size w w2 := by (repeat' (first | (with_reducible exact Below.refl _ _) | (with_reducible assumption) | (with_reducible refine balloc ?_ _) | (with_reducible refine Below.drew ?_) | (with_reducible refine bset ?_ ?_ _) | (with_reducible refine bstep ?_ (by with_reducible assumption)) | (with_reducible refine bturn ?_ (by with_reducible assumption) ?_) | go_size))
  clear qu0 qu1 qu2 qu3 qu4 qu5 qu6 qu7 qu8 qu9 qu10 qu11 qu12 zu0 zu1 zu2 zu3 zu4 zu5 zu6 zu7 zu8 zu9 zu10 zu11 zu12 hlu hllu hb2
  have hlu := k2.lt; have hllu := lts hlu; have qu0 := k2.cell 0; have qu1 := k2.cell 1; have qu2 := k2.cell 2; have qu3 := k2.cell 3; have qu4 := k2.cell 4; have qu5 := k2.cell 5; have qu6 := k2.cell 6; have qu7 := k2.cell 7; have qu8 := k2.cell 8; have qu9 := k2.cell 9; have qu10 := k2.cell 10; have qu11 := k2.cell 11; have qu12 := k2.cell 12; simp at qu0 qu1 qu2 qu3 qu4 qu5 qu6 qu7 qu8 qu9 qu10 qu11 qu12; have zu0 := k2.frozen 0; have zu1 := k2.frozen 1; have zu2 := k2.frozen 2; have zu3 := k2.frozen 3; have zu4 := k2.frozen 4; have zu5 := k2.frozen 5; have zu6 := k2.frozen 6; have zu7 := k2.frozen 7; have zu8 := k2.frozen 8; have zu9 := k2.frozen 9; have zu10 := k2.frozen 10; have zu11 := k2.frozen 11; have zu12 := k2.frozen 12; have Hk2 := Lib.hid k2; clear k2
  go_wp2_with fail
  go_returns
  exact ⟨rfl, by (repeat' (first | (with_reducible exact Below.refl _ _) | (with_reducible assumption) | (with_reducible refine balloc ?_ _) | (with_reducible refine Below.drew ?_) | (with_reducible refine bset ?_ ?_ _) | (with_reducible refine bstep ?_ (by with_reducible assumption)) | (with_reducible refine bturn ?_ (by with_reducible assumption) ?_) | go_size))⟩
end
end Go.Proofs.YtkkeplmaphcblaaGreatDoor

namespace Go.Proofs
open Go.Shelf
def Tryz.lays156_ren : Go.Shelf.Ren := ⟨fun | 156 => 57 | 165 => 93 | 166 => 94 | 169 => 67 | 240 => 143 | 241 => 144 | 276 => 189 | 277 => 190 | n => n, fun | 31 => 29 | 9 => 9 | 3 => 3 | 4 => 4 | 0 => 0 | 20 => 20 | 72 => 95 | 76 => 121 | 70 => 92 | 37 => 93 | 75 => 120 | 127 => 140 | 164 => 229 | 5 => 5 | 80 => 98 | n => n, fun | n => n⟩
theorem Tryz.lays156 : Go.Proofs.Lays.n156 Tryz.prog Tryz.lays156_ren := {
  mixed := by kernel_rfl
  f156 := Tryz.func57.trans (congrArg some (by kernel_rfl))
  f165 := Tryz.func93.trans (congrArg some (by kernel_rfl))
  f166 := Tryz.func94.trans (congrArg some (by kernel_rfl))
  f169 := Tryz.func67.trans (congrArg some (by kernel_rfl))
  f240 := Tryz.func143.trans (congrArg some (by kernel_rfl))
  f241 := Tryz.func144.trans (congrArg some (by kernel_rfl))
  f276 := Tryz.func189.trans (congrArg some (by kernel_rfl))
  f277 := Tryz.func190.trans (congrArg some (by kernel_rfl))
  t0 := Tryz.underlying0
  a0 := Tryz.isAgg0
  z0 := Tryz.sizeOf0
  v0 := Tryz.zeroValue0
  t3 := Tryz.underlying3
  a3 := Tryz.isAgg3
  z3 := Tryz.sizeOf3
  v3 := Tryz.zeroValue3
  t4 := Tryz.underlying4
  a4 := Tryz.isAgg4
  z4 := Tryz.sizeOf4
  v4 := Tryz.zeroValue4
  t9 := Tryz.underlying9
  a9 := Tryz.isAgg9
  z9 := Tryz.sizeOf9
  v9 := Tryz.zeroValue9
  t20 := Tryz.underlying20
  a20 := Tryz.isAgg20
  z20 := Tryz.sizeOf20
  v20 := Tryz.zeroValue20
  t31 := Tryz.underlying29
  a31 := Tryz.isAgg29
  z31 := Tryz.sizeOf29
  v31 := Tryz.zeroValue29
  t37 := Tryz.underlying93
  a37 := Tryz.isAgg93
  z37 := Tryz.sizeOf93
  v37 := Tryz.zeroValue93
  t70 := Tryz.underlying92
  a70 := Tryz.isAgg92
  z70 := Tryz.sizeOf92
  v70 := Tryz.zeroValue92
  t72 := Tryz.underlying95
  a72 := Tryz.isAgg95
  z72 := Tryz.sizeOf95
  v72 := Tryz.zeroValue95
  t75 := Tryz.underlying120
  a75 := Tryz.isAgg120
  z75 := Tryz.sizeOf120
  v75 := Tryz.zeroValue120
  t76 := Tryz.underlying121
  a76 := Tryz.isAgg121
  z76 := Tryz.sizeOf121
  v76 := Tryz.zeroValue121
  t127 := Tryz.underlying140
  a127 := Tryz.isAgg140
  z127 := Tryz.sizeOf140
  v127 := Tryz.zeroValue140
  t164 := Tryz.underlying229
  a164 := Tryz.isAgg229
  z164 := Tryz.sizeOf229
  v164 := Tryz.zeroValue229 }
theorem Tryz.Builder_Extra_156 : Builder.Extra Tryz.prog Tryz.lays156_ren := {
  sizeBuilder := by kernel_rfl
  liesBuilder := by kernel_rfl
  t5 := Tryz.underlying5
  a5 := Tryz.isAgg5
  z5 := Tryz.sizeOf5
  v5 := Tryz.zeroValue5
  infoByte := by kernel_rfl
  cellsByte := by kernel_rfl
  sizeByte := by kernel_rfl
  neB5 := by decide }
open Go.RowKit in
theorem Tryz.strings_Join_none (a : Option Addr) (c : Nat) (sep : ByteArray) (w : World) :
    Calls Tryz.prog 57 #[.slice a 0 c, .string sep] w fun e w' => e = .returned (.string ⟨#[]⟩) ∧ w' = w := Any.strings_Join_none Tryz.lays156 Tryz.Builder_Extra_156 a c sep w
open Go.RowKit in
theorem Tryz.strings_Join (bk o c : Nat) (xs : List ByteArray) (sep : ByteArray) (w : World) (hcells : ∀ (j : Nat) x, xs[j]? = some x → w.cell? ⟨bk, o + j, none⟩ = some (.string x)) (hbk : bk < w.heap.size) (hN : xs.length ≤ 140737488355328) (hcap : xs.length ≤ c) (hlen : (Lib.join (xs.map (·.data.toList)) sep.data.toList).length ≤ 140737488355328) :
    Calls Tryz.prog 57 #[.slice (some ⟨bk, o, none⟩) xs.length c, .string sep] w fun e w' => e = .returned (.string ⟨(Lib.join (xs.map (·.data.toList)) sep.data.toList).toArray⟩) ∧ Below w.heap.size w w' := Any.strings_Join Tryz.lays156 Tryz.Builder_Extra_156 bk o c xs sep w hcells hbk hN hcap hlen
def Tryz.lays190_ren : Go.Shelf.Ren := ⟨fun | 190 => 52 | 125 => 90 | 258 => 89 | 128 => 136 | 129 => 137 | 302 => 127 | 303 => 128 | 304 => 129 | 305 => 130 | 306 => 131 | 307 => 132 | 308 => 133 | 309 => 134 | 310 => 135 | 333 => 177 | 329 => 178 | 330 => 179 | 334 => 180 | 335 => 181 | 336 => 182 | 344 => 208 | n => n, fun | 31 => 29 | 9 => 9 | 3 => 3 | 46 => 115 | 0 => 0 | 51 => 165 | 53 => 167 | 4 => 4 | 183 => 159 | 182 => 158 | 131 => 79 | 5 => 5 | 218 => 203 | 222 => 100 | 228 => 243 | 229 => 244 | n => n, fun | n => n⟩
theorem Tryz.lays190 : Go.Proofs.Lays.n190 Tryz.prog Tryz.lays190_ren := {
  mixed := by kernel_rfl
  f125 := Tryz.func90.trans (congrArg some (by kernel_rfl))
  f128 := Tryz.func136.trans (congrArg some (by kernel_rfl))
  f129 := Tryz.func137.trans (congrArg some (by kernel_rfl))
  f190 := Tryz.func52.trans (congrArg some (by kernel_rfl))
  f258 := Tryz.func89.trans (congrArg some (by kernel_rfl))
  f302 := Tryz.func127.trans (congrArg some (by kernel_rfl))
  f303 := Tryz.func128.trans (congrArg some (by kernel_rfl))
  f304 := Tryz.func129.trans (congrArg some (by kernel_rfl))
  f305 := Tryz.func130.trans (congrArg some (by kernel_rfl))
  f306 := Tryz.func131.trans (congrArg some (by kernel_rfl))
  f307 := Tryz.func132.trans (congrArg some (by kernel_rfl))
  f308 := Tryz.func133.trans (congrArg some (by kernel_rfl))
  f309 := Tryz.func134.trans (congrArg some (by kernel_rfl))
  f310 := Tryz.func135.trans (congrArg some (by kernel_rfl))
  f329 := Tryz.func178.trans (congrArg some (by kernel_rfl))
  f330 := Tryz.func179.trans (congrArg some (by kernel_rfl))
  f333 := Tryz.func177.trans (congrArg some (by kernel_rfl))
  f334 := Tryz.func180.trans (congrArg some (by kernel_rfl))
  f335 := Tryz.func181.trans (congrArg some (by kernel_rfl))
  f336 := Tryz.func182.trans (congrArg some (by kernel_rfl))
  f344 := Tryz.func208.trans (congrArg some (by kernel_rfl))
  t0 := Tryz.underlying0
  a0 := Tryz.isAgg0
  z0 := Tryz.sizeOf0
  v0 := Tryz.zeroValue0
  t3 := Tryz.underlying3
  a3 := Tryz.isAgg3
  z3 := Tryz.sizeOf3
  v3 := Tryz.zeroValue3
  t4 := Tryz.underlying4
  a4 := Tryz.isAgg4
  z4 := Tryz.sizeOf4
  v4 := Tryz.zeroValue4
  t5 := Tryz.underlying5
  a5 := Tryz.isAgg5
  z5 := Tryz.sizeOf5
  v5 := Tryz.zeroValue5
  t9 := Tryz.underlying9
  a9 := Tryz.isAgg9
  z9 := Tryz.sizeOf9
  v9 := Tryz.zeroValue9
  t31 := Tryz.underlying29
  a31 := Tryz.isAgg29
  z31 := Tryz.sizeOf29
  v31 := Tryz.zeroValue29
  t46 := Tryz.underlying115
  a46 := Tryz.isAgg115
  z46 := Tryz.sizeOf115
  v46 := Tryz.zeroValue115
  t51 := Tryz.underlying165
  a51 := Tryz.isAgg165
  z51 := Tryz.sizeOf165
  v51 := Tryz.zeroValue165
  t53 := Tryz.underlying167
  a53 := Tryz.isAgg167
  z53 := Tryz.sizeOf167
  v53 := Tryz.zeroValue167
  t131 := Tryz.underlying79
  a131 := Tryz.isAgg79
  z131 := Tryz.sizeOf79
  v131 := Tryz.zeroValue79
  t182 := Tryz.underlying158
  a182 := Tryz.isAgg158
  z182 := Tryz.sizeOf158
  v182 := Tryz.zeroValue158
  t183 := Tryz.underlying159
  a183 := Tryz.isAgg159
  z183 := Tryz.sizeOf159
  v183 := Tryz.zeroValue159
  t218 := Tryz.underlying203
  a218 := Tryz.isAgg203
  z218 := Tryz.sizeOf203
  v218 := Tryz.zeroValue203
  t222 := Tryz.underlying100
  a222 := Tryz.isAgg100
  z222 := Tryz.sizeOf100
  v222 := Tryz.zeroValue100
  t228 := Tryz.underlying243
  a228 := Tryz.isAgg243
  z228 := Tryz.sizeOf243
  v228 := Tryz.zeroValue243
  t229 := Tryz.underlying244
  a229 := Tryz.isAgg244
  z229 := Tryz.sizeOf244
  v229 := Tryz.zeroValue244 }
open Go.Sort Go.RowKit in
theorem Tryz.slices_Sort_string (blk off cap : Nat) (ss : List (List UInt8)) (w : World) (hH : Holds encStr w blk off ss.toArray) (hblk : blk < w.heap.size) (hsz : ss.length < 4611686018427387904) :
    Calls Tryz.prog 52 #[.slice (some ⟨blk, off, none⟩) ss.length cap] w fun e w' =>
      e = .returned (.tuple #[]) ∧ ∃ n os, w' = grow (putRow encStr (Sort.ahead w n) blk off (ss.mergeSort fun x y => decide (x ≤ y)).toArray) os := Any.slices_Sort_string Tryz.lays190 blk off cap ss w hH hblk hsz
def Tryz.lays108_ren : Go.Shelf.Ren := ⟨fun | 108 => 108 | n => n, fun | 28 => 136 | 3 => 3 | 0 => 0 | 4 => 4 | n => n, fun | n => n⟩
theorem Tryz.lays108 : Go.Proofs.Lays.n108 Tryz.prog Tryz.lays108_ren := {
  mixed := by kernel_rfl
  f108 := Tryz.func108.trans (congrArg some (by kernel_rfl))
  t0 := Tryz.underlying0
  a0 := Tryz.isAgg0
  z0 := Tryz.sizeOf0
  v0 := Tryz.zeroValue0
  t3 := Tryz.underlying3
  a3 := Tryz.isAgg3
  z3 := Tryz.sizeOf3
  v3 := Tryz.zeroValue3
  t4 := Tryz.underlying4
  a4 := Tryz.isAgg4
  z4 := Tryz.sizeOf4
  v4 := Tryz.zeroValue4
  t28 := Tryz.underlying136
  a28 := Tryz.isAgg136
  z28 := Tryz.sizeOf136
  v28 := Tryz.zeroValue136 }
open Go.Lib in
theorem Tryz.slices_Index_int (b off n c : Nat) (zs : List Int) (x : Int) (w : World) (hz : n ≤ zs.length) (hbig : n ≤ 9223372036854775807) (hc : ∀ j, j < zs.length → w.cell? ⟨b, off + j, none⟩ = some (.int .i64 (zs.getD j 0))) :
    Calls Tryz.prog 108 #[.slice (some ⟨b, off, none⟩) n c, .int .i64 x] w fun e w' => e = .returned (.int .i64 (Lib.idxOf (zs.take n) x)) ∧ w' = w := Any.slices_Index_int Tryz.lays108 b off n c zs x w hz hbig hc
open Go.Lib in
theorem Tryz.slices_Index_int_empty (a : Option Addr) (c : Nat) (x : Int) (w : World) :
    Calls Tryz.prog 108 #[.slice a 0 c, .int .i64 x] w fun e w' => e = .returned (.int .i64 (Lib.idxOf [] x)) ∧ w' = w := Any.slices_Index_int_empty Tryz.lays108 a c x w
def Tryz.lays194_ren : Go.Shelf.Ren := ⟨fun | 194 => 54 | n => n, fun | 31 => 29 | 9 => 9 | 3 => 3 | 4 => 4 | 0 => 0 | n => n, fun | n => n⟩
theorem Tryz.lays194 : Go.Proofs.Lays.n194 Tryz.prog Tryz.lays194_ren := {
  mixed := by kernel_rfl
  f194 := Tryz.func54.trans (congrArg some (by kernel_rfl))
  t0 := Tryz.underlying0
  a0 := Tryz.isAgg0
  z0 := Tryz.sizeOf0
  v0 := Tryz.zeroValue0
  t3 := Tryz.underlying3
  a3 := Tryz.isAgg3
  z3 := Tryz.sizeOf3
  v3 := Tryz.zeroValue3
  t4 := Tryz.underlying4
  a4 := Tryz.isAgg4
  z4 := Tryz.sizeOf4
  v4 := Tryz.zeroValue4
  t9 := Tryz.underlying9
  a9 := Tryz.isAgg9
  z9 := Tryz.sizeOf9
  v9 := Tryz.zeroValue9
  t31 := Tryz.underlying29
  a31 := Tryz.isAgg29
  z31 := Tryz.sizeOf29
  v31 := Tryz.zeroValue29 }
open Go.RowKit Go.Lib Go.Sort in
theorem Tryz.slices_Compact_string (blk off cap : Nat) (zs : List (List UInt8)) (w : World) (hH : Holds encStr w blk off zs.toArray) (hsz : zs.length ≤ 9223372036854775807) (hcap : zs.length ≤ cap) :
    Calls Tryz.prog 54 #[.slice (some ⟨blk, off, none⟩) zs.length cap] w fun e w' => e = .returned (.slice (some ⟨blk, off, none⟩) (Lib.compact zs).length cap) ∧ ∃ q, w' = putRow encStr (Sort.ahead w q) blk off (Lib.compact zs ++ List.replicate (zs.length - (Lib.compact zs).length) []).toArray := Any.slices_Compact_string Tryz.lays194 blk off cap zs w hH hsz hcap
open Go.RowKit Go.Lib Go.Sort in
theorem Tryz.slices_Compact_string_empty (a : Option Addr) (cap : Nat) (w : World) :
    Calls Tryz.prog 54 #[.slice a 0 cap] w fun e w' => e = .returned (.slice a 0 cap) ∧ w' = w := Any.slices_Compact_string_empty Tryz.lays194 a cap w
open Go.RowKit Go.Lib Go.Sort in
theorem Tryz.slices_Compact_string_cells (b off n c : Nat) (Sx : Nat → ByteArray) (w : World) (hbig : n ≤ 9223372036854775807) (hcap : n ≤ c) (hc : ∀ i, i < n → w.cell? ⟨b, off + i, none⟩ = some (.string (Sx i))) (hf : ∀ j, j < n → w.frozen? ⟨b, off + j, none⟩ = false) :
    Calls Tryz.prog 54 #[.slice (some ⟨b, off, none⟩) n c] w fun e w' => e = .returned (.slice (some ⟨b, off, none⟩) (Lib.compact (Lib.strsOf Sx n)).length c) ∧ ∃ q, w' = (w.drewN q).setCells b off ((Lib.compact (Lib.strsOf Sx n) ++ List.replicate (n - (Lib.compact (Lib.strsOf Sx n)).length) []).map encStr) := Any.slices_Compact_string_cells Tryz.lays194 b off n c Sx w hbig hcap hc hf
open Go.RowKit Go.Sort in
theorem Tryz.slices_Sort_string_none (p : Option Addr) (cap : Nat) (w : World) :
    Calls Tryz.prog 52 #[.slice p 0 cap] w fun e w' => e = .returned (.tuple #[]) ∧ w' = w := Any.slices_Sort_string_none Tryz.lays190 p cap w
end Go.Proofs

namespace Go.Proofs.YtkkeplmaphcblaaGreatDoor
open Go.RowKit Go.Shelf

theorem vtxt_sz {v : Vl} (h : vSound v) : (bs (vtxt v)).size ≤ 1000 := by
  have := vtxt_len h
  rw [bs_size]
  omega
theorem uwrite_any (t : Tst) (ht : tSound t) (m : Int) (w : World) (hw : OKW m w) :
    Calls Tryz.prog 56 #[.agg (cellsTs t)] w fun e w' => e = .returned (.string (bs (ttxt t))) ∧ Below w.heap.size w w' := by
  obtain ⟨h1, h2, h3⟩ := ht
  have KT := Lib.hid fun (W : World) (hb : Below w.heap.size w W) => vtext_any t.lo h1 m W (hw.step hb)
  have KH := Lib.hid fun (W : World) (hb : Below w.heap.size w W) => vtext_any t.hi h2 m W (hw.step hb)
  obtain ⟨k, lo, hi, ol, oh⟩ := t
  simp only at h1 h2 h3 KT KH
  have z1 := vtxt_sz h1
  have z2 := vtxt_sz h2
  rcases h3 with ⟨rfl, _⟩ | ⟨h4, _⟩
  · have e : ttxt ⟨6, lo, hi, ol, oh⟩ = (if ol then 40 else 91) :: (vtxt lo ++ 46 :: 46 :: (vtxt hi ++ [if oh then 41 else 93])) := rfl
    have e2 : ∀ (a b : UInt8), ((((⟨#[a]⟩ : ByteArray) ++ bs (vtxt lo)) ++ ⟨#[46, 46]⟩) ++ bs (vtxt hi)) ++ ⟨#[b]⟩ = bs (a :: (vtxt lo ++ 46 :: 46 :: (vtxt hi ++ [b]))) := fun a b => by
      rw [show (⟨#[a]⟩ : ByteArray) = bs [a] from rfl, show (⟨#[b]⟩ : ByteArray) = bs [b] from rfl, show (⟨#[46, 46]⟩ : ByteArray) = bs [46, 46] from rfl, bs_app, bs_app, bs_app, bs_app]
      simp
    rw [e]
    cases ol <;> cases oh
    · have := wr_6ff lo.k lo.n lo.s lo.m hi.k hi.n hi.s hi.m (bs lo.t) (bs hi.t) w _ _ z1 z2 KT KH
      rw [e2] at this
      exact this
    · have := wr_6ft lo.k lo.n lo.s lo.m hi.k hi.n hi.s hi.m (bs lo.t) (bs hi.t) w _ _ z1 z2 KT KH
      rw [e2] at this
      exact this
    · have := wr_6tf lo.k lo.n lo.s lo.m hi.k hi.n hi.s hi.m (bs lo.t) (bs hi.t) w _ _ z1 z2 KT KH
      rw [e2] at this
      exact this
    · have := wr_6tt lo.k lo.n lo.s lo.m hi.k hi.n hi.s hi.m (bs lo.t) (bs hi.t) w _ _ z1 z2 KT KH
      rw [e2] at this
      exact this
  · have e2 : ∀ (g : Bs), (bs g) ++ bs (vtxt lo) = bs (g ++ vtxt lo) := fun g => bs_app g _
    rcases h4 with rfl | ⟨h4, _⟩
    · exact wr_1 lo.k lo.n lo.s lo.m hi.k hi.n hi.s hi.m (bs lo.t) (bs hi.t) w _ ol oh KT
    · rcases h4 with rfl | rfl | rfl | rfl
      · have := wr_2 lo.k lo.n lo.s lo.m hi.k hi.n hi.s hi.m (bs lo.t) (bs hi.t) w _ ol oh z1 KT
        rw [show (⟨#[60, 32]⟩ : ByteArray) = bs [60, 32] from rfl, e2] at this
        exact this
      · have := wr_3 lo.k lo.n lo.s lo.m hi.k hi.n hi.s hi.m (bs lo.t) (bs hi.t) w _ ol oh z1 KT
        rw [show (⟨#[60, 61, 32]⟩ : ByteArray) = bs [60, 61, 32] from rfl, e2] at this
        exact this
      · have := wr_4 lo.k lo.n lo.s lo.m hi.k hi.n hi.s hi.m (bs lo.t) (bs hi.t) w _ ol oh z1 KT
        rw [show (⟨#[62, 32]⟩ : ByteArray) = bs [62, 32] from rfl, e2] at this
        exact this
      · have := wr_5 lo.k lo.n lo.s lo.m hi.k hi.n hi.s hi.m (bs lo.t) (bs hi.t) w _ ol oh z1 KT
        rw [show (⟨#[62, 61, 32]⟩ : ByteArray) = bs [62, 61, 32] from rfl, e2] at this
        exact this
theorem join_ltxt : ∀ (l : List Tst), Lib.join (l.map ttxt) [44, 32] = ltxt l
  | [] => rfl
  | [t] => by
    show Lib.join [ttxt t] _ = _
    rw [Lib.join_one]
    rfl
  | t :: u :: r => by
    have := join_ltxt (u :: r)
    show Lib.join (ttxt t :: ttxt u :: r.map ttxt) _ = ttxt t ++ 44 :: 32 :: ltxt (u :: r)
    rw [← this]
    unfold Lib.join
    rw [List.intercalate_cons_cons]
    simp
noncomputable def clS (t : Tst) : List Value := [.string (bs (ttxt t))]
theorem clS_len (t : Tst) : (clS t).length = 1 := rfl
set_option maxHeartbeats 8000000 in
set_option maxRecDepth 100000 in
theorem utext_no (any no : Bool) (A : Option Addr) (n c : Nat) (w : World)
    (KS : Hid (∀ W, Below w.heap.size w W → Calls Tryz.prog 29 #[.agg #[.bool any, .bool no, .slice A n c]] W fun e w' => e = .returned (.bool false) ∧ Below W.heap.size W w')) :
    Calls Tryz.prog 24 #[.agg #[.bool any, .bool no, .slice A n c]] w fun e w' => e = .returned (.tuple #[.string ⟨#[]⟩, .int .i64 2]) ∧ Below w.heap.size w w' := by
  go_enter Tryz.func24, Tryz.ntmps24
  go_wp2_with fail
  refine (KS.out _ (by (repeat' (first | (with_reducible exact Below.refl _ _) | (with_reducible assumption) | (with_reducible refine balloc ?_ _) | (with_reducible refine Below.drew ?_) | (with_reducible refine bset ?_ ?_ _) | (with_reducible refine bstep ?_ (by with_reducible assumption)) | (with_reducible refine bturn ?_ (by with_reducible assumption) ?_) | go_size)))).mono ?_
  rintro e w1 ⟨rfl, hb1⟩
  go_wp2_with fail
  go_returns
  exact ⟨rfl, by (repeat' (first | (with_reducible exact Below.refl _ _) | (with_reducible assumption) | (with_reducible refine balloc ?_ _) | (with_reducible refine Below.drew ?_) | (with_reducible refine bset ?_ ?_ _) | (with_reducible refine bstep ?_ (by with_reducible assumption)) | (with_reducible refine bturn ?_ (by with_reducible assumption) ?_) | go_size))⟩
set_option maxHeartbeats 8000000 in
set_option maxRecDepth 100000 in
theorem utext_all (no : Bool) (A : Option Addr) (n c : Nat) (w : World)
    (KS : Hid (∀ W, Below w.heap.size w W → Calls Tryz.prog 29 #[.agg #[.bool true, .bool no, .slice A n c]] W fun e w' => e = .returned (.bool true) ∧ Below W.heap.size W w')) :
    Calls Tryz.prog 24 #[.agg #[.bool true, .bool no, .slice A n c]] w fun e w' => e = .returned (.tuple #[.string ⟨#[45]⟩, .int .i64 0]) ∧ Below w.heap.size w w' := by
  have k0 : Blk (w.alloc (.cells #[.bool true, .bool no, .slice A n c] 47)) w.heap.size 47 #[.bool true, .bool no, .slice A n c] := Blk.new _ _ _
  go_enter Tryz.func24, Tryz.ntmps24
  go_wp2_with fail
  refine (KS.out _ (by (repeat' (first | (with_reducible exact Below.refl _ _) | (with_reducible assumption) | (with_reducible refine balloc ?_ _) | (with_reducible refine Below.drew ?_) | (with_reducible refine bset ?_ ?_ _) | (with_reducible refine bstep ?_ (by with_reducible assumption)) | (with_reducible refine bturn ?_ (by with_reducible assumption) ?_) | go_size)))).mono ?_
  rintro e w1 ⟨rfl, hb1⟩
  have k1 := k0.step hb1
  have hb : Below w.heap.size w w1 := by (repeat' (first | (with_reducible exact Below.refl _ _) | (with_reducible assumption) | (with_reducible refine balloc ?_ _) | (with_reducible refine Below.drew ?_) | (with_reducible refine bset ?_ ?_ _) | (with_reducible refine bstep ?_ (by with_reducible assumption)) | (with_reducible refine bturn ?_ (by with_reducible assumption) ?_) | go_size))
  clear k0 hb1
  have hlu := k1.lt; have hllu := lts hlu; have qu0 := k1.cell 0; have qu1 := k1.cell 1; have qu2 := k1.cell 2; simp at qu0 qu1 qu2; have zu0 := k1.frozen 0; have zu1 := k1.frozen 1; have zu2 := k1.frozen 2; have Hk1 := Lib.hid k1; clear k1
  go_wp2_with fail
  go_returns
  exact ⟨rfl, by (repeat' (first | (with_reducible exact Below.refl _ _) | (with_reducible assumption) | (with_reducible refine balloc ?_ _) | (with_reducible refine Below.drew ?_) | (with_reducible refine bset ?_ ?_ _) | (with_reducible refine bstep ?_ (by with_reducible assumption)) | (with_reducible refine bturn ?_ (by with_reducible assumption) ?_) | go_size))⟩
set_option maxHeartbeats 16000000 in
set_option maxRecDepth 100000 in
theorem utext_list (no : Bool) (A : Option Addr) (L : List Tst) (c : Nat) (h1 : 1 ≤ L.length) (h8 : L.length ≤ 8) (S J : ByteArray) (w : World) (hM : RM clT 13 w A L)
    (hJ : S = if no then (⟨#[110, 111, 116, 40]⟩ ++ J) ++ ⟨#[41]⟩ else J) (hJs : J.size ≤ 20000)
    (KS : Hid (∀ W, Below w.heap.size w W → Calls Tryz.prog 29 #[.agg #[.bool false, .bool no, .slice A L.length c]] W fun e w' => e = .returned (.bool true) ∧ Below W.heap.size W w'))
    (KW : Hid (∀ t ∈ L, ∀ W, Below w.heap.size w W → Calls Tryz.prog 56 #[.agg (cellsTs t)] W fun e w' => e = .returned (.string (bs (ttxt t))) ∧ Below W.heap.size W w'))
    (KJ : Hid (∀ B o cp W, (∀ i t, L[i]? = some t → W.cell? ⟨B, o + i, none⟩ = some (.string (bs (ttxt t)))) → B < W.heap.size → L.length ≤ cp → Calls Tryz.prog 57 #[.slice (some ⟨B, o, none⟩) L.length cp, .string ⟨#[44, 32]⟩] W fun e w' => e = .returned (.string J) ∧ Below W.heap.size W w')) :
    Calls Tryz.prog 24 #[.agg #[.bool false, .bool no, .slice A L.length c]] w fun e w' => e = .returned (.tuple #[.string S, .int .i64 0]) ∧ Below w.heap.size w w' := by
  have k0 : Blk (w.alloc (.cells #[.bool false, .bool no, .slice A L.length c] 47)) w.heap.size 47 #[.bool false, .bool no, .slice A L.length c] := Blk.new _ _ _
  obtain ⟨i0, hi, hz0, hz1, hz2⟩ := info_parts' infoStr
  have HI := Lib.hid (And.intro hi (And.intro hz0 (And.intro hz1 hz2)))
  have HM := Lib.hid hM
  have HS := Lib.hid hJ
  clear hi hz0 hz1 hz2 hM hJ
  go_enter Tryz.func24, Tryz.ntmps24
  go_wp2_with fail
  refine (KS.out _ (by (repeat' (first | (with_reducible exact Below.refl _ _) | (with_reducible assumption) | (with_reducible refine balloc ?_ _) | (with_reducible refine Below.drew ?_) | (with_reducible refine bset ?_ ?_ _) | (with_reducible refine bstep ?_ (by with_reducible assumption)) | (with_reducible refine bturn ?_ (by with_reducible assumption) ?_) | go_size)))).mono ?_
  rintro e w1 ⟨rfl, hb1⟩
  have k1 := k0.step hb1
  have hb : Below w.heap.size w w1 := by (repeat' (first | (with_reducible exact Below.refl _ _) | (with_reducible assumption) | (with_reducible refine balloc ?_ _) | (with_reducible refine Below.drew ?_) | (with_reducible refine bset ?_ ?_ _) | (with_reducible refine bstep ?_ (by with_reducible assumption)) | (with_reducible refine bturn ?_ (by with_reducible assumption) ?_) | go_size))
  have hz := hb1.size
  simp only [World.size_alloc] at hz
  have K1 := Lib.hid k1
  clear k0 hb1
  have hlu := k1.lt; have hllu := lts hlu; have qu0 := k1.cell 0; have qu1 := k1.cell 1; have qu2 := k1.cell 2; simp at qu0 qu1 qu2; have zu0 := k1.frozen 0; have zu1 := k1.frozen 1; have zu2 := k1.frozen 2; have Hk1 := Lib.hid k1; clear k1
  go_wp2_with fail
  go_loopw [16, 4] (fun i out wr => ∃ k : Nat, k ≤ L.length ∧ i = .int .i64 (k : Int) ∧ wr.ownsRow (w.heap.size + 1) 9 1 out k (rowL clS (L.take k)) ∧ Blk wr w.heap.size 47 #[.bool false, .bool no, .slice A L.length c] ∧ Below w.heap.size w wr) (fun i _ _ => L.length - (intOf i).toNat)
  case atStart => exact ⟨0, by omega, rfl, World.ownsRow_nil _ _ _ _, K1.out, hb⟩
  case round =>
    obtain ⟨k, hk, rfl, hown, kb, hbr⟩ := hrel
    obtain ⟨B, cp, hv, hRM, hlc, hcm, hbase⟩ := own_rm clS_len hown (by rw [List.length_take]; omega)
    subst hv
    by_cases hlt : k < L.length
    · obtain ⟨t, ht⟩ : ∃ t, L[k]? = some t := ⟨L[k], List.getElem?_eq_getElem hlt⟩
      have hki : (k : Int) < (L.length : Int) := by omega
      have KW1 := Lib.hid (KW.out t (List.mem_of_getElem? ht))
      have htk : L.take (k + 1) = L.take k ++ [t] := by rw [List.take_add_one, ht]; rfl
      obtain ⟨q, hq⟩ : ∃ q, bs (ttxt t) = q := ⟨_, rfl⟩
      have hcN : rowL clS (L.take k) ++ [.string q] = rowL clS (L.take (k + 1)) := by
        rw [htk, rowL_app, rowL_one, ← hq]
        rfl
      have HCN := Lib.hid hcN
      rw [hq] at KW1
      obtain ⟨g, o, rfl, HC⟩ := rmt_get HM.out ht
      obtain ⟨tk, ⟨lk, ln, ls, lt, lm⟩, ⟨xk, xn, xs, xt, xm⟩, ol, oh⟩ := t
      simp only at HC
      obtain ⟨c0, c1, c2, c3, c4, c5, c6, c7, c8, c9, c10, c11, c12⟩ := HC
      replace c0 := keep1 hbr c0
      replace c1 := keep1 hbr c1
      replace c2 := keep1 hbr c2
      replace c3 := keep1 hbr c3
      replace c4 := keep1 hbr c4
      replace c5 := keep1 hbr c5
      replace c6 := keep1 hbr c6
      replace c7 := keep1 hbr c7
      replace c8 := keep1 hbr c8
      replace c9 := keep1 hbr c9
      replace c10 := keep1 hbr c10
      replace c11 := keep1 hbr c11
      replace c12 := keep1 hbr c12
      have HO := Lib.hid hown
      have HB := Lib.hid kb
      have hzr := hbr.size
      have hk8 : k ≤ 8 := by omega
      clear ht htk hcN hown hRM hbase hlc hcm kb hq hlt
      go_wp2_with fail
      refine (KW1.out _ (by (repeat' (first | (with_reducible exact Below.refl _ _) | (with_reducible assumption) | (with_reducible refine balloc ?_ _) | (with_reducible refine Below.drew ?_) | (with_reducible refine bset ?_ ?_ _) | (with_reducible refine bstep ?_ (by with_reducible assumption)) | (with_reducible refine bturn ?_ (by with_reducible assumption) ?_) | go_size)))).mono ?_
      rintro e w2 ⟨rfl, hb2⟩
      have ho2 := Lib.hid (own_below (HO.out.alloc _) hb2)
      have kb2 := Lib.hid ((HB.out.alloc (.cells #[.int .i64 tk, .int .i64 lk, .int .i64 ln, .int .i64 ls, .string (bs lt), .int .i64 lm, .int .i64 xk, .int .i64 xn, .int .i64 xs, .string (bs xt), .int .i64 xm, .bool ol, .bool oh] 82)).step hb2)
      have hb02 : Below w.heap.size w w2 := by (repeat' (first | (with_reducible exact Below.refl _ _) | (with_reducible assumption) | (with_reducible refine balloc ?_ _) | (with_reducible refine Below.drew ?_) | (with_reducible refine bset ?_ ?_ _) | (with_reducible refine bstep ?_ (by with_reducible assumption)) | (with_reducible refine bturn ?_ (by with_reducible assumption) ?_) | go_size))
      have hz2 := hb02.size
      clear c0 c1 c2 c3 c4 c5 c6 c7 c8 c9 c10 c11 c12 HO HB hb2
      obtain ⟨hi, hz0, hz1, hz2'⟩ := HI.out
      go_wp2_with (at_builtin; refine wpList_append_own _ rfl _ _ 29 rfl (w.heap.size + 1) 9 i0 (.string ⟨#[]⟩) 1 16 Tryz.underlying29 hi hz0 hz1 hz2' rfl (by decide) _ _ _ rfl (ho2.out.alloc _) ⟨w2.heap.size, 0, none⟩ 1 1 [.string q] rfl rfl ?c1 ?c2 ?c3 ?c4 ?c5 ?_)
      case c1 =>
        intro j u hj
        match j, hj with
        | 0, hj => simp at hj; subst hj; simp [Addr.add]
        | j + 1, hj => simp at hj
      case c2 =>
        intro u hu
        simp only [List.mem_cons, List.not_mem_nil, or_false] at hu
        subst hu
        rfl
      case c3 => unfold maxLen; omega
      case c4 => omega
      case c5 => simp; omega
      intro v' w5 hown' hgrow _
      rw [HCN.out] at hown'
      have hbl : ∀ g, (Value.slice B k cp).ownBlock = some g → w.heap.size + 1 ≤ g := fun g hg => (ho2.out.lt g hg).1
      have kb5 : Blk w5 w.heap.size 47 #[.bool false, .bool no, .slice (some ⟨g, o, none⟩) L.length c] := (kb2.out.alloc _).grown hgrow (fun e => by have := hbl _ e.symm; omega)
      have hb05 : Below w.heap.size w w5 := Below.grown (hb02.alloc (by omega) _) hgrow (by simp only [World.size_alloc]; omega) (fun g hg => by have := hbl g hg; omega)
      have HO5 := Lib.hid hown'
      clear hown' hgrow hi hz0 hz1 hz2' ho2 kb2 hbl
      go_wp2_with fail
      go_roundw
      case rel => exact ⟨k + 1, by omega, by go_num, HO5.out, kb5, hb05⟩
      case measure => simp [intOf]; omega
    · obtain rfl : k = L.length := by omega
      have hL0 : 0 < L.length := by omega
      have hget : L[0]? = some L[0] := List.getElem?_eq_getElem hL0
      obtain ⟨g, o, rfl, _⟩ := hRM 0 L[0] (by rw [List.take_length]; exact hget)
      have hcells : ∀ i t, L[i]? = some t → wr.cell? ⟨g, o + i, none⟩ = some (.string (bs (ttxt t))) := fun i t ht => by
        obtain ⟨g2, o2, e, hc⟩ := hRM i t (by rw [List.take_length]; exact ht)
        injection e with e
        injection e with e1 e2
        subst e1 e2
        have := hc 0 _ rfl
        simpa using this
      have hlt2 := block_lt_of_cell (hcells 0 _ hget)
      simp only at hlt2
      have KJ1 := Lib.hid (KJ.out g o cp wr hcells hlt2 hlc)
      have HB := Lib.hid kb
      clear hRM hcells hlt2 hlc hget hown hcm hbase kb hlt
      go_wp2_with fail
      refine KJ1.out.mono ?_
      rintro e w3 ⟨rfl, hb3⟩
      have kb3 := HB.out.step hb3
      have f1 : 4 + J.size ≤ 9223372036854775807 := by omega
      have f2 : ((⟨#[110, 111, 116, 40]⟩ : ByteArray) ++ J).size + 1 ≤ 9223372036854775807 := by rw [ByteArray.size_append]; show 4 + J.size + 1 ≤ _; omega
      have f3 : 4 + J.size + 1 ≤ 9223372036854775807 := by omega
      have hlu := kb3.lt; have hllu := lts hlu; have qu0 := kb3.cell 0; have qu1 := kb3.cell 1; have qu2 := kb3.cell 2; simp at qu0 qu1 qu2; have zu0 := kb3.frozen 0; have zu1 := kb3.frozen 1; have zu2 := kb3.frozen 2; have Hkb3 := Lib.hid kb3; clear kb3
      cases no
      all_goals
        go_wp2_with fail
        go_returns
        exact ⟨by rw [HS.out]; rfl, by (repeat' (first | (with_reducible exact Below.refl _ _) | (with_reducible assumption) | (with_reducible refine balloc ?_ _) | (with_reducible refine Below.drew ?_) | (with_reducible refine bset ?_ ?_ _) | (with_reducible refine bstep ?_ (by with_reducible assumption)) | (with_reducible refine bturn ?_ (by with_reducible assumption) ?_) | go_size))⟩
open Classical in
/-- What unary.Text writes. -/
noncomputable def utx (t : Tsts) : Bs × Int := if tsSound t then (utxt t, 0) else ([], 2)
open Classical in
theorem utext_any (t : Tsts) (A : Option Addr) (c : Nat) (m : Int) (w : World) (hw : OKW m w) (hM : RM clT 13 w A t.l) (hok : ∀ u ∈ t.l, TOk u) :
    Calls Tryz.prog 24 #[.agg #[.bool t.any, .bool t.no, .slice A t.l.length c]] w fun e w' => e = .returned (.tuple #[.string (bs (utx t).1), .int .i64 (utx t).2]) ∧ Below w.heap.size w w' := by
  have KS := Lib.hid fun (W : World) (hb : Below w.heap.size w W) => usound_any t A c m W (hw.step hb) (hM.step hb) hok
  unfold utx
  by_cases hs : tsSound t
  · rw [if_pos hs]
    rw [decide_eq_true hs] at KS
    have hs0 := hs
    unfold tsSound at hs
    cases ha : t.any with
    | true =>
      rw [ha] at KS
      have e : utxt t = [45] := by unfold utxt; rw [if_pos ha]
      rw [e]
      exact utext_all t.no A t.l.length c w KS
    | false =>
      rw [ha] at KS
      rw [if_neg (by rw [ha]; simp)] at hs
      obtain ⟨h1, h8, hall⟩ := hs
      have hlen := ltxt_len hall
      have e : bs (utxt t) = if t.no then (⟨#[110, 111, 116, 40]⟩ ++ bs (ltxt t.l)) ++ ⟨#[41]⟩ else bs (ltxt t.l) := by
        unfold utxt
        rw [if_neg (by rw [ha]; simp)]
        cases t.no with
        | true =>
          rw [if_pos rfl, if_pos rfl, show (⟨#[110, 111, 116, 40]⟩ : ByteArray) = bs [110, 111, 116, 40] from rfl, show (⟨#[41]⟩ : ByteArray) = bs [41] from rfl, bs_app, bs_app]
          rfl
        | false => rfl
      refine utext_list t.no A t.l c h1 h8 _ (bs (ltxt t.l)) w hM e (by rw [bs_size]; omega) KS (Lib.hid fun u hu W hb => uwrite_any u (hall u hu) m W (hw.step hb)) (Lib.hid fun B o cp W hc hB hcp => ?_)
      have hj := Tryz.strings_Join B o cp (t.l.map fun u => bs (ttxt u)) ⟨#[44, 32]⟩ W (fun j x hx => by
        rw [List.getElem?_map, Option.map_eq_some_iff] at hx
        obtain ⟨u, hu, rfl⟩ := hx
        exact hc j u hu) hB (by rw [List.length_map]; omega) (by rw [List.length_map]; exact hcp) (by
          rw [List.map_map]
          have : (fun x : ByteArray => x.data.toList) ∘ (fun u => bs (ttxt u)) = ttxt := rfl
          rw [this]
          show (Lib.join _ [44, 32]).length ≤ _
          rw [join_ltxt]
          omega)
      rw [List.length_map, List.map_map] at hj
      have e2 : (fun x : ByteArray => x.data.toList) ∘ (fun u => bs (ttxt u)) = ttxt := rfl
      rw [e2] at hj
      have e3 : (⟨(Lib.join (t.l.map ttxt) (⟨#[44, 32]⟩ : ByteArray).data.toList).toArray⟩ : ByteArray) = bs (ltxt t.l) := by
        show bs (Lib.join (t.l.map ttxt) [44, 32]) = _
        rw [join_ltxt]
      rw [e3] at hj
      exact hj
  · rw [if_neg hs]
    rw [decide_eq_false hs] at KS
    exact utext_no t.any t.no A t.l.length c w KS
end Go.Proofs.YtkkeplmaphcblaaGreatDoor

namespace Go.Proofs.YtkkeplmaphcblaaGreatDoor
open Go.RowKit

theorem dw_app {p : UInt8 → Bool} {c : UInt8} {r : Bs} (hc : p c = false) : ∀ {u : Bs}, (∀ x ∈ u, p x = true) → (u ++ c :: r).dropWhile p = c :: r
  | [], _ => by simp [List.dropWhile, hc]
  | x :: u, h => by
    rw [List.cons_append, List.dropWhile_cons_of_pos (h x (List.mem_cons_self ..))]
    exact dw_app hc fun y hy => h y (List.mem_cons_of_mem _ hy)
theorem dw_ex {p : UInt8 → Bool} {c : UInt8} {r : Bs} : ∀ {l : Bs}, l.dropWhile p = c :: r → ∃ u, (∀ x ∈ u, p x = true) ∧ l = u ++ c :: r
  | [], h => by simp at h
  | x :: l, h => by
    by_cases hx : p x = true
    · rw [List.dropWhile_cons_of_pos hx] at h
      obtain ⟨u, h1, h2⟩ := dw_ex h
      refine ⟨x :: u, fun y hy => ?_, by rw [h2]; rfl⟩
      rcases List.mem_cons.1 hy with rfl | hy
      · exact hx
      · exact h1 y hy
    · rw [List.dropWhile_cons_of_neg hx] at h
      exact ⟨[], by simp, by simpa using h⟩
theorem trim_l {p : UInt8 → Bool} {c : UInt8} (hc : p c = false) (l : Bs) : (l.reverse.dropWhile p).reverse.dropWhile p = [c] ↔ ∃ u v, (∀ x ∈ u, p x = true) ∧ (∀ x ∈ v, p x = true) ∧ l = u ++ c :: v := by
  constructor
  · intro h
    obtain ⟨u, h1, h2⟩ := dw_ex h
    have h3 : l.reverse.dropWhile p = c :: u.reverse := by
      have := congrArg List.reverse h2
      simpa using this
    obtain ⟨v, h4, h5⟩ := dw_ex h3
    refine ⟨u, v.reverse, h1, fun x hx => h4 x (by simpa using hx), ?_⟩
    have := congrArg List.reverse h5
    simpa using this
  · rintro ⟨u, v, h1, h2, rfl⟩
    have e : (u ++ c :: v).reverse = v.reverse ++ c :: u.reverse := by simp
    rw [e, dw_app hc (fun x hx => h2 x (by simpa using hx))]
    have e2 : (c :: u.reverse).reverse = u ++ [c] := by simp
    rw [e2]
    exact dw_app hc h1
theorem trim_r {p : UInt8 → Bool} {c : UInt8} (hc : p c = false) (l : Bs) : ((l.dropWhile p).reverse.dropWhile p).reverse = [c] ↔ ∃ u v, (∀ x ∈ u, p x = true) ∧ (∀ x ∈ v, p x = true) ∧ l = u ++ c :: v := by
  constructor
  · intro h
    have h0 : (l.dropWhile p).reverse.dropWhile p = [c] := by
      have := congrArg List.reverse h
      simpa using this
    obtain ⟨v, h1, h2⟩ := dw_ex h0
    have h3 : l.dropWhile p = c :: v.reverse := by
      have := congrArg List.reverse h2
      simpa using this
    obtain ⟨u, h4, h5⟩ := dw_ex h3
    exact ⟨u, v.reverse, h4, fun x hx => h1 x (by simpa using hx), h5⟩
  · rintro ⟨u, v, h1, h2, rfl⟩
    rw [dw_app hc h1]
    have e : (c :: v).reverse = v.reverse ++ c :: [] := by simp
    rw [e, dw_app hc (fun x hx => h2 x (by simpa using hx))]
    rfl
theorem any_trim (l : Bs) : (Lib.trimS l [32, 9, 13, 10] == [45]) = isAny l := by
  have h1 := trim_l (p := (whites.contains ·)) (c := 45) (by decide) l
  have h2 := trim_r (p := (whites.contains ·)) (c := 45) (by decide) l
  have h3 : Lib.trimS l [32, 9, 13, 10] = (l.reverse.dropWhile (whites.contains ·)).reverse.dropWhile (whites.contains ·) := rfl
  unfold isAny
  rw [h3]
  rw [← h2] at h1
  by_cases h : ((l.dropWhile (whites.contains ·)).reverse.dropWhile (whites.contains ·)).reverse = [45]
  · rw [h, h1.2 h]
  · have h4 : ¬ (l.reverse.dropWhile (whites.contains ·)).reverse.dropWhile (whites.contains ·) = [45] := fun hn => h (h1.1 hn)
    rw [beq_eq_false_iff_ne.2 h, beq_eq_false_iff_ne.2 h4]
end Go.Proofs.YtkkeplmaphcblaaGreatDoor

namespace Go.Proofs.YtkkeplmaphcblaaGreatDoor
open Go.RowKit Go.Shelf

theorem utrim (s : ByteArray) (hs : s.size ≤ 9223372036854775807) (w : World) :
    Calls Tryz.prog 58 #[.string s, .string ⟨#[32, 9, 13, 10]⟩] w fun e w' => e = .returned (.string ⟨(Lib.trimS s.data.toList (⟨#[32, 9, 13, 10]⟩ : ByteArray).data.toList).toArray⟩) ∧ Below w.heap.size w w' :=
  Any.strings_Trim_laid Tryz.lays160 (by kernel_rfl) s ⟨#[32, 9, 13, 10]⟩ w hs (by decide) (ascii_of_all (by decide))
/-- What is wanted of cell.test. -/
def TestAny : Prop := ∀ (b : Nat) (A : Option Addr) (c : Nat) (p : PS) (w : World), PB w b A c p → (∀ t ∈ p.L, tkOK t) →
    Calls Tryz.prog 103 #[.agg #[.pointer (some ⟨b, 0, none⟩)]] w fun e w' => e = .returned (.agg (cellsTs p.test.1)) ∧ PB w' b A c p.test.2 ∧ Gr b w w'
/-- What unary.Parse comes to. -/
def UPOut (w w' : World) (r : Tsts × Int × Int) (e : Ending) : Prop := ∃ A c, e = .returned (.tuple #[.agg #[.bool r.1.any, .bool r.1.no, .slice A r.1.l.length c], .int .i64 r.2.1, .int .i64 r.2.2]) ∧ RM clT 13 w' A r.1.l ∧ ∀ g o, A = some ⟨g, o, none⟩ → w.heap.size ≤ g
theorem need_L' (p : PS) (s : Bs) : (p.need s).L = p.L := need_L p s
theorem more_L : ∀ (f : Nat) (l : List Tst) (p : PS), (moreT f l p).2.L = p.L
  | 0, l, p => rfl
  | f + 1, l, p => by
    rw [moreT]
    split
    · split
      · exact fail_L _ _
      · rw [more_L f]
        rw [test_L]
        rfl
    · rfl
theorem out_1 {no : Bool} {L : List Tst} {p : PS} (he : p.e = 0) (hE : p.ended = false) : outT no L p = (zeroTs, (p.fail 5).a, 5) := by
  have h1 : p.fin = p.fail 5 := by unfold PS.fin; rw [if_pos ⟨he, hE⟩]
  have h2 : (p.fail 5).e = 5 := by unfold PS.fail; rw [if_pos he]
  unfold outT
  rw [h1, h2, if_neg (by decide)]
theorem out_2 {no : Bool} {L : List Tst} {p : PS} (he : p.e = 0) (hE : p.ended = true) : outT no L p = (⟨false, no, L⟩, 0, 0) := by
  have h1 : p.fin = p := by unfold PS.fin; rw [if_neg (by rw [hE]; simp)]
  unfold outT
  rw [h1, if_pos he]
theorem out_3 {no : Bool} {L : List Tst} {p : PS} (he : ¬ p.e = 0) : outT no L p = (zeroTs, p.a, p.e) := by
  have h1 : p.fin = p := by unfold PS.fin; rw [if_neg (fun h => he h.1)]
  unfold outT
  rw [h1, if_neg he]
set_option maxHeartbeats 4000000 in
set_option maxRecDepth 100000 in
theorem uparse_any_t (s tr : ByteArray) (htr : (tr.toList == [45]) = true) (w : World)
    (HT : Hid (∀ W, Below w.heap.size w W → Calls Tryz.prog 58 #[.string s, .string ⟨#[32, 9, 13, 10]⟩] W fun e w' => e = .returned (.string tr) ∧ Below W.heap.size W w')) :
    Calls Tryz.prog 27 #[.string s] w fun e w' => UPOut w w' (⟨true, false, []⟩, 0, 0) e ∧ Below w.heap.size w w' := by
  have k1 : Blk (w.alloc (.cells #[.bool false, .bool false, .slice none 0 0] 47)) w.heap.size 47 #[.bool false, .bool false, .slice none 0 0] := Blk.new _ _ _
  go_enter Tryz.func27, Tryz.ntmps27
  go_wp2_with fail
  refine (HT.out _ (by (repeat' (first | (with_reducible exact Below.refl _ _) | (with_reducible assumption) | (with_reducible refine balloc ?_ _) | (with_reducible refine Below.drew ?_) | (with_reducible refine bset ?_ ?_ _) | (with_reducible refine bstep ?_ (by with_reducible assumption)) | (with_reducible refine bturn ?_ (by with_reducible assumption) ?_) | go_size)))).mono ?_
  rintro e w1 ⟨rfl, hb1⟩
  have k2 := k1.step hb1
  clear k1
  go_wp2_with (refine wpList_store_blk k2 rfl _ _ _ (by rfl) _ (by rfl) (by rfl) (by (repeat (first | (with_reducible exact k2) | (with_reducible refine Blk.alloc ?_ _) | (with_reducible refine Blk.drew ?_) | (with_reducible refine Blk.far ?_ (by first | (simp; done) | (simp; omega)) _) | (with_reducible refine Blk.turn ?_ (by with_reducible assumption) (by omega))))) (by rfl) (by kernel_rfl) (by simp [Value.oneCell']) ?_; intro wt k2n ht)
  refine ret_blk3 rfl k2n rfl Tryz.underlying47 rfl (by kernel_rfl) rfl ?_
  exact ⟨⟨none, 0, rfl, RM.nil _ _, fun g o h => by cases h⟩, by (repeat' (first | (with_reducible exact Below.refl _ _) | (with_reducible assumption) | (with_reducible refine balloc ?_ _) | (with_reducible refine Below.drew ?_) | (with_reducible refine bset ?_ ?_ _) | (with_reducible refine bstep ?_ (by with_reducible assumption)) | (with_reducible refine bturn ?_ (by with_reducible assumption) ?_) | go_size))⟩
set_option maxHeartbeats 16000000 in
set_option maxRecDepth 100000 in
theorem uparse_f (hTA : Hid TestAny) (s tr : ByteArray) (htr : (tr.toList == [45]) = false) (p0 : PS) (hok : ∀ t ∈ p0.L, tkOK t) (hN : p0.isS notB = false) (w : World)
    (HT : Hid (∀ W, Below w.heap.size w W → Calls Tryz.prog 58 #[.string s, .string ⟨#[32, 9, 13, 10]⟩] W fun e w' => e = .returned (.string tr) ∧ Below W.heap.size W w'))
    (HP : Hid (∀ W, Below w.heap.size w W → Calls Tryz.prog 41 #[.string s] W fun e w' => ∃ b A c, e = .returned (.pointer (some ⟨b, 0, none⟩)) ∧ W.heap.size ≤ b ∧ PB w' b A c p0 ∧ Below W.heap.size W w')) :
    Calls Tryz.prog 27 #[.string s] w fun e w' => UPOut w w' (readT p0) e ∧ Below w.heap.size w w' := by
  obtain ⟨p1, hp1⟩ : ∃ q, p0 = q := ⟨_, rfl⟩
  have hL1 : p1.L = p0.L := by rw [← hp1]
  have hr : readT p0 = outT false p1.tests.1 p1.tests.2 := by unfold readT; rw [hN, ← hp1]; rfl
  have hL3 : p1.tests.2.L = p0.L := by unfold PS.tests; rw [more_L, test_L, hL1]
  have KT := Lib.hid (fun (b : Nat) (A : Option Addr) (c : Nat) (W : World) (h : PB W b A c p0) => take_any b A c p0 notB W h)
  have KL := Lib.hid (fun (b : Nat) (A : Option Addr) (c : Nat) (W : World) (h : PB W b A c p1) => list_any b A c p1 W h (Lib.hid fun q hq W h => hTA.out b A c q W h (by rw [hq, hL1]; exact hok)))
  have KE := Lib.hid (fun (b : Nat) (A : Option Addr) (c : Nat) (q : PS) (W : World) (h : PB W b A c q) => error_any b A c q W h)
  have KD := Lib.hid (fun (b : Nat) (A : Option Addr) (c : Nat) (q : PS) (W : World) (h : PB W b A c q) => ended_any b A c q W h)
  have KF := Lib.hid (fun (b : Nat) (A : Option Addr) (c : Nat) (q : PS) (W : World) (h : PB W b A c q) => fail_any b A c q 5 W h)
  rw [hN, take_no hN] at KT
  rw [hr]
  obtain ⟨L, hL⟩ : ∃ L, p1.tests.1 = L := ⟨_, rfl⟩
  obtain ⟨p2, hp2⟩ : ∃ q, p1.tests.2 = q := ⟨_, rfl⟩
  rw [hL, hp2] at KL
  rw [hL, hp2]
  rw [hp2] at hL3
  have HL1 := Lib.hid hL1
  have HL2 : Hid (p2.L = p0.L) := Lib.hid (by rw [← hp2]; unfold PS.tests; rw [more_L, test_L, hL1])
  have HL3 := Lib.hid hL3
  have k1 : Blk (w.alloc (.cells #[.bool false, .bool false, .slice none 0 0] 47)) w.heap.size 47 #[.bool false, .bool false, .slice none 0 0] := Blk.new _ _ _
  clear hTA hok hN hr  hL1 hL3 hL hp2
  subst hp1

  go_enter Tryz.func27, Tryz.ntmps27
  go_wp2_with fail
  refine (HT.out _ (by (repeat' (first | (with_reducible exact Below.refl _ _) | (with_reducible assumption) | (with_reducible refine balloc ?_ _) | (with_reducible refine Below.drew ?_) | (with_reducible refine bset ?_ ?_ _) | (with_reducible refine bstep ?_ (by with_reducible assumption)) | (with_reducible refine bturn ?_ (by with_reducible assumption) ?_) | go_size)))).mono ?_
  rintro e w1 ⟨rfl, hb1⟩
  have k2 := k1.step hb1
  have hb01 : Below w.heap.size w w1 := by (repeat' (first | (with_reducible exact Below.refl _ _) | (with_reducible assumption) | (with_reducible refine balloc ?_ _) | (with_reducible refine Below.drew ?_) | (with_reducible refine bset ?_ ?_ _) | (with_reducible refine bstep ?_ (by with_reducible assumption)) | (with_reducible refine bturn ?_ (by with_reducible assumption) ?_) | go_size))
  clear k1 HT
  go_wp2_with fail
  refine (HP.out _ (by (repeat' (first | (with_reducible exact Below.refl _ _) | (with_reducible assumption) | (with_reducible refine balloc ?_ _) | (with_reducible refine Below.drew ?_) | (with_reducible refine bset ?_ ?_ _) | (with_reducible refine bstep ?_ (by with_reducible assumption)) | (with_reducible refine bturn ?_ (by with_reducible assumption) ?_) | go_size)))).mono ?_
  rintro e w2 ⟨b, A, c, rfl, hbb, h2, hb2⟩
  have k3 := k2.step hb2
  have hb02 : Below w.heap.size w w2 := by (repeat' (first | (with_reducible exact Below.refl _ _) | (with_reducible assumption) | (with_reducible refine balloc ?_ _) | (with_reducible refine Below.drew ?_) | (with_reducible refine bset ?_ ?_ _) | (with_reducible refine bstep ?_ (by with_reducible assumption)) | (with_reducible refine bturn ?_ (by with_reducible assumption) ?_) | go_size))
  have hlb := h2.blk.lt
  have hl3 := k3.lt
  have H2 := Lib.hid h2
  have hz1 := hb01.size
  have hz0 := hb1.size
  simp only [World.size_alloc] at hz0
  clear k2 HP h2 hb1 hb2 hb01
  go_wp2_with fail
  have kc : Blk (w2.alloc (.cells #[.pointer (some ⟨b, 0, none⟩)] 87)) w2.heap.size 87 #[.pointer (some ⟨b, 0, none⟩)] := Blk.new _ _ _
  refine (KT.out b A c _ (H2.out.step (by (repeat' (first | (with_reducible exact Below.refl _ _) | (with_reducible assumption) | (with_reducible refine balloc ?_ _) | (with_reducible refine Below.drew ?_) | (with_reducible refine bset ?_ ?_ _) | (with_reducible refine bstep ?_ (by with_reducible assumption)) | (with_reducible refine bturn ?_ (by with_reducible assumption) ?_) | go_size))))).mono ?_
  rintro e w3 ⟨rfl, h3, g3⟩
  have g03 : Gr b w2 w3 := (Gr.of (by (repeat' (first | (with_reducible exact Below.refl _ _) | (with_reducible assumption) | (with_reducible refine balloc ?_ _) | (with_reducible refine Below.drew ?_) | (with_reducible refine bset ?_ ?_ _) | (with_reducible refine bstep ?_ (by with_reducible assumption)) | (with_reducible refine bturn ?_ (by with_reducible assumption) ?_) | go_size)))).trans g3
  have hz3 := g3.size
  simp only [World.size_alloc] at hz3
  have kc3 := kc.gr g3 (by omega)
  have kr3 := k3.gr g03 (by omega)
  have H3 := Lib.hid h3
  clear kc k3 h3 g3
  have KC3 := Lib.hid kc3
  have hlu := kc3.lt; have hllu := lts hlu; have qu0 := kc3.cell 0; simp at qu0; have zu0 := kc3.frozen 0; have Hkc3 := Lib.hid kc3; clear kc3
  go_wp2_with fail
  have kt : Blk (w3.alloc (.cells #[.bool false, .bool false, .slice none 0 0] 47)) w3.heap.size 47 #[.bool false, .bool false, .slice none 0 0] := Blk.new _ _ _

  have g04 := g03.alloc (.cells #[.bool false, .bool false, .slice none 0 0] 47)
  refine (KL.out b A c _ (H3.out.step (by (repeat' (first | (with_reducible exact Below.refl _ _) | (with_reducible assumption) | (with_reducible refine balloc ?_ _) | (with_reducible refine Below.drew ?_) | (with_reducible refine bset ?_ ?_ _) | (with_reducible refine bstep ?_ (by with_reducible assumption)) | (with_reducible refine bturn ?_ (by with_reducible assumption) ?_) | go_size))))).mono ?_
  rintro e w4 ⟨⟨B, cp, rfl, hRM, hbase⟩, h4, g4⟩
  have hz4 := g4.size
  simp only [World.size_alloc] at hz4 hbase
  have kc4 := (KC3.out.alloc _).gr g4 (by omega)
  have kr4 := (kr3.alloc _).gr g4 (by omega)
  have kt4 := kt.gr g4 (by omega)
  have g24 := g04.trans g4
  clear kr3 kt g4 g04 g03
  have hRB : ∀ g o, B = some ⟨g, o, none⟩ → w3.heap.size + 1 ≤ g := fun g o e => by have := hbase g o e; omega
  have HB := Lib.hid hRB
  have HRM := Lib.hid hRM
  have H4 := Lib.hid h4
  have KT4 := Lib.hid kt4
  have KC4 := Lib.hid kc4
  clear hRM hRB hbase h4 KL KT H3 KC3 qu0 zu0 hlu hllu kc4
  have hlt := kt4.lt; have hllt := lts hlt; have qt0 := kt4.cell 0; have qt1 := kt4.cell 1; have qt2 := kt4.cell 2; simp at qt0 qt1 qt2; have zt0 := kt4.frozen 0; have zt1 := kt4.frozen 1; have zt2 := kt4.frozen 2; have Hkt4 := Lib.hid kt4; clear kt4
  go_upto_region 8 with fail
  have kt5 : Blk (w4.setCell ⟨w3.heap.size, 2, none⟩ (.slice B L.length cp)) w3.heap.size 47 #[.bool false, .bool false, .slice B L.length cp] := by
    have := KT4.out.set_ 2 (.slice B L.length cp)
    simpa using this
  have t5 : Turned w4 (w4.setCell ⟨w3.heap.size, 2, none⟩ (.slice B L.length cp)) w3.heap.size := Turned.setCell _ _ _ _
  generalize w4.setCell ⟨w3.heap.size, 2, none⟩ (.slice B L.length cp) = w5 at *
  have kc5 := KC4.out.turn t5 (by omega)
  have kr5 := kr4.turn t5 (by omega)
  have h5 : PB w5 b A c p2 := H2.out.turnF HL2.out.symm H4.out t5 (by omega)
  have g25 : Gr b w2 w5 := Gr.turnFar g24 t5 (by omega)
  have rm5 : RM clT 13 w5 B L := HRM.out.gr ((Gr.refl w3.heap.size w4).turn t5) (fun g o e => by have := HB.out g o e; omega)
  have hz5 := t5.size
  clear HRM H4 KT4 KC4 kr4 g24 t5 qt0 qt1 qt2 zt0 zt1 zt2 hlt hllt Hkt4
  have KT5 := Lib.hid kt5
  have KC5 := Lib.hid kc5

  obtain ⟨w6, hw6⟩ : ∃ x, x = w5 := ⟨_, rfl⟩
  subst hw6
  have hz6 : w4.heap.size ≤ w6.heap.size := by omega
  have kt6 := kt5
  have kr6 := kr5
  have h6 := h5
  have g26 := g25
  have rm6 := rm5
  have KC6 := KC5
  clear kr5 h5 g25 rm5 KT5
  have hlt := kt5.lt; have hllt := lts hlt; have qt0 := kt5.cell 0; have qt1 := kt5.cell 1; have qt2 := kt5.cell 2; simp at qt0 qt1 qt2; have zt0 := kt5.frozen 0; have zt1 := kt5.frozen 1; have zt2 := kt5.frozen 2; have Hkt5 := Lib.hid kt5; clear kt5
  have hlu := kc5.lt; have hllu := lts hlu; have qu0 := kc5.cell 0; simp at qu0; have zu0 := kc5.frozen 0; have Hkc5 := Lib.hid kc5; clear kc5
  go_wp2_with fail
  refine (KE.out b A c p2 _ h6).mono ?_
  rintro e w7 ⟨rfl, hb7⟩
  have kc7 := KC6.out.step hb7
  have kr7 := kr6.step hb7
  have kt7 := Lib.hid (kt6.step hb7)
  have h7 := h6.step hb7
  have g27 := g26.bstep hb7
  have rm7 := Lib.hid (rm6.step hb7)
  have hz7 := hb7.size
  clear KC6 kr6 kt6 h6 g26 rm6 hb7 qu0 zu0 hlu hllu qt0 qt1 qt2 zt0 zt1 zt2 hlt hllt
  have KC7 := Lib.hid kc7
  by_cases he : p2.e = 0
  · cases hE : p2.ended with
    | false =>
      have KD3 := Lib.hid (KD.out b A c p2)
      rw [hE] at KD3
      obtain ⟨p4, hp4⟩ : ∃ q, p2.fail 5 = q := ⟨_, rfl⟩
      have hp4e : p4.e = 5 := by rw [← hp4]; unfold PS.fail; rw [if_pos he]
      have KF3 := Lib.hid (KF.out b A c p2)
      rw [hp4] at KF3
      have HF : Hid (outT false L p2 = (zeroTs, p4.a, 5)) := Lib.hid (by rw [← hp4]; exact out_1 he hE)
      clear hp4 hE
      have hlu := kc7.lt; have hllu := lts hlu; have qu0 := kc7.cell 0; simp at qu0; have zu0 := kc7.frozen 0; have Hkc7 := Lib.hid kc7; clear kc7
      go_wp2_with fail
      refine (KD3.out _ h7).mono ?_
      rintro e w8 ⟨rfl, hb8⟩
      have kc8 := KC7.out.step hb8
      have kr8 := kr7.step hb8
      have h8 := h7.step hb8
      have g28 := g27.bstep hb8
      have hz8 := hb8.size
      have KC8 := Lib.hid kc8
      clear kr7 h7 g27 hb8 qu0 zu0 hlu hllu
      have hlu := kc8.lt; have hllu := lts hlu; have qu0 := kc8.cell 0; simp at qu0; have zu0 := kc8.frozen 0; have Hkc8 := Lib.hid kc8; clear kc8
      go_wp2_with fail
      refine (KF3.out _ h8).mono ?_
      rintro e w9 ⟨rfl, h9, g9⟩
      have hz9 := g9.size
      have kc9 := KC8.out.gr g9 (by omega)
      have kr9 := kr8.gr g9 (by omega)
      have g29 := g28.trans g9
      clear kr8 h8 g28 g9 qu0 zu0 hlu hllu
      have hlu := kc9.lt; have hllu := lts hlu; have qu0 := kc9.cell 0; simp at qu0; have zu0 := kc9.frozen 0; have Hkc9 := Lib.hid kc9; clear kc9
      go_wp2_with fail
      refine (KE.out b A c p4 _ h9).mono ?_
      rintro e w10 ⟨rfl, hb10⟩
      have kr10 := kr9.step hb10
      have g210 := g29.bstep hb10
      rw [hp4e]
      clear kr9 g29 hb10 qu0 zu0 hlu hllu
      go_wp2_with (refine wpList_store_blk kr10 rfl _ _ _ (by rfl) _ (by rfl) (by rfl) (by (repeat (first | (with_reducible exact kr10) | (with_reducible refine Blk.alloc ?_ _) | (with_reducible refine Blk.drew ?_) | (with_reducible refine Blk.far ?_ (by first | (simp; done) | (simp; omega)) _) | (with_reducible refine Blk.turn ?_ (by with_reducible assumption) (by omega))))) (by rfl) (by kernel_rfl) (by simp [Value.oneCell']) ?_; intro wt kr10n ht)
      refine ret_blk3 rfl kr10n rfl Tryz.underlying47 rfl (by kernel_rfl) rfl ?_
      exact ⟨by rw [HF.out]; exact ⟨none, 0, rfl, RM.nil _ _, fun g o h => by cases h⟩, bturn (Gr.below g210 hb02 (by omega)) ht (Nat.le_refl _)⟩
    | true =>
      have KD3 := Lib.hid (KD.out b A c p2)
      rw [hE] at KD3
      have HF : Hid (outT false L p2 = (⟨false, false, L⟩, 0, 0)) := Lib.hid (out_2 he hE)
      clear hE
      have hlu := kc7.lt; have hllu := lts hlu; have qu0 := kc7.cell 0; simp at qu0; have zu0 := kc7.frozen 0; have Hkc7 := Lib.hid kc7; clear kc7
      go_wp2_with fail
      refine (KD3.out _ h7).mono ?_
      rintro e w8 ⟨rfl, hb8⟩
      have kc8 := KC7.out.step hb8
      have kr8 := kr7.step hb8
      have kt8 := Lib.hid (kt7.out.step hb8)
      have h8 := h7.step hb8
      have g28 := g27.bstep hb8
      have rm8 := Lib.hid (rm7.out.step hb8)
      have hz8 := hb8.size
      clear kr7 h7 g27 hb8 qu0 zu0 hlu hllu
      have hlu := kc8.lt; have hllu := lts hlu; have qu0 := kc8.cell 0; simp at qu0; have zu0 := kc8.frozen 0; have Hkc8 := Lib.hid kc8; clear kc8
      go_wp2_with fail
      refine (KE.out b A c p2 _ h8).mono ?_
      rintro e w9 ⟨rfl, hb9⟩
      have kt9 := kt8.out.step hb9
      have kr9 := kr8.step hb9
      have g29 := g28.bstep hb9
      have rm9 := Lib.hid (rm8.out.step hb9)
      have hz9 := hb9.size
      clear kr8 h8 g28 hb9 qu0 zu0 hlu hllu
      go_wp2_with (first | (refine wpList_load_blk kt9 rfl _ _ (by rfl) (by rfl) (by (repeat (first | (with_reducible exact kt9) | (with_reducible refine Blk.alloc ?_ _) | (with_reducible refine Blk.drew ?_) | (with_reducible refine Blk.far ?_ (by first | (simp; done) | (simp; omega)) _) | (with_reducible refine Blk.turn ?_ (by with_reducible assumption) (by omega))))) _ Tryz.underlying47 rfl (by kernel_rfl) ?_) | (refine wpList_store_blk kr9 rfl _ _ _ (by rfl) _ (by rfl) (by rfl) (by (repeat (first | (with_reducible exact kr9) | (with_reducible refine Blk.alloc ?_ _) | (with_reducible refine Blk.drew ?_) | (with_reducible refine Blk.far ?_ (by first | (simp; done) | (simp; omega)) _) | (with_reducible refine Blk.turn ?_ (by with_reducible assumption) (by omega))))) (by rfl) (by kernel_rfl) (by simp [Value.oneCell']) ?_; intro wt kr9n ht))
      refine ret_blk3 rfl kr9n rfl Tryz.underlying47 rfl (by kernel_rfl) rfl ?_
      exact ⟨by rw [HF.out]; exact ⟨B, cp, rfl, rm9.out.gr ((Gr.refl w.heap.size w9).turn ht) (fun g o e => by have := HB.out g o e; omega), fun g o e => by have := HB.out g o e; omega⟩, bturn (Gr.below g29 hb02 (by omega)) ht (Nat.le_refl _)⟩
  · have hneb : (p2.e != 0) = true := by simpa using he
    have HF : Hid (outT false L p2 = (zeroTs, p2.a, p2.e)) := Lib.hid (out_3 he)
    have hlu := kc7.lt; have hllu := lts hlu; have qu0 := kc7.cell 0; simp at qu0; have zu0 := kc7.frozen 0; have Hkc7 := Lib.hid kc7; clear kc7
    go_wp2_with fail
    refine (KE.out b A c p2 _ h7).mono ?_
    rintro e w9 ⟨rfl, hb9⟩
    have kr9 := kr7.step hb9
    have g29 := g27.bstep hb9
    clear kr7 h7 g27 hb9 qu0 zu0 hlu hllu
    go_wp2_with (refine wpList_store_blk kr9 rfl _ _ _ (by rfl) _ (by rfl) (by rfl) (by (repeat (first | (with_reducible exact kr9) | (with_reducible refine Blk.alloc ?_ _) | (with_reducible refine Blk.drew ?_) | (with_reducible refine Blk.far ?_ (by first | (simp; done) | (simp; omega)) _) | (with_reducible refine Blk.turn ?_ (by with_reducible assumption) (by omega))))) (by rfl) (by kernel_rfl) (by simp [Value.oneCell']) ?_; intro wt kr9n ht)
    refine ret_blk3 rfl kr9n rfl Tryz.underlying47 rfl (by kernel_rfl) rfl ?_
    exact ⟨by rw [HF.out]; exact ⟨none, 0, rfl, RM.nil _ _, fun g o h => by cases h⟩, bturn (Gr.below g29 hb02 (by omega)) ht (Nat.le_refl _)⟩
set_option maxHeartbeats 16000000 in
set_option maxRecDepth 100000 in
theorem uparse_t (hTA : Hid TestAny) (s tr : ByteArray) (htr : (tr.toList == [45]) = false) (p0 : PS) (hok : ∀ t ∈ p0.L, tkOK t) (hN : p0.isS notB = true) (w : World)
    (HT : Hid (∀ W, Below w.heap.size w W → Calls Tryz.prog 58 #[.string s, .string ⟨#[32, 9, 13, 10]⟩] W fun e w' => e = .returned (.string tr) ∧ Below W.heap.size W w'))
    (HP : Hid (∀ W, Below w.heap.size w W → Calls Tryz.prog 41 #[.string s] W fun e w' => ∃ b A c, e = .returned (.pointer (some ⟨b, 0, none⟩)) ∧ W.heap.size ≤ b ∧ PB w' b A c p0 ∧ Below W.heap.size W w')) :
    Calls Tryz.prog 27 #[.string s] w fun e w' => UPOut w w' (readT p0) e ∧ Below w.heap.size w w' := by
  obtain ⟨p1, hp1⟩ : ∃ q, p0.adv.need [40] = q := ⟨_, rfl⟩
  have hL1 : p1.L = p0.L := by rw [← hp1, need_L]; rfl
  have hr : readT p0 = outT true p1.tests.1 (p1.tests.2.need [41]) := by unfold readT; rw [if_pos hN, hp1]
  have hL3 : (p1.tests.2.need [41]).L = p0.L := by rw [need_L]; unfold PS.tests; rw [more_L, test_L, hL1]
  have KT := Lib.hid (fun (b : Nat) (A : Option Addr) (c : Nat) (W : World) (h : PB W b A c p0) => take_any b A c p0 notB W h)
  have KL := Lib.hid (fun (b : Nat) (A : Option Addr) (c : Nat) (W : World) (h : PB W b A c p1) => list_any b A c p1 W h (Lib.hid fun q hq W h => hTA.out b A c q W h (by rw [hq, hL1]; exact hok)))
  have KE := Lib.hid (fun (b : Nat) (A : Option Addr) (c : Nat) (q : PS) (W : World) (h : PB W b A c q) => error_any b A c q W h)
  have KD := Lib.hid (fun (b : Nat) (A : Option Addr) (c : Nat) (q : PS) (W : World) (h : PB W b A c q) => ended_any b A c q W h)
  have KF := Lib.hid (fun (b : Nat) (A : Option Addr) (c : Nat) (q : PS) (W : World) (h : PB W b A c q) => fail_any b A c q 5 W h)
  have KN1 := Lib.hid (fun (b : Nat) (A : Option Addr) (c : Nat) (W : World) (h : PB W b A c p0.adv) => need_any b A c p0.adv [40] W h)
  have KN2 := Lib.hid (fun (b : Nat) (A : Option Addr) (c : Nat) (W : World) (h : PB W b A c p1.tests.2) => need_any b A c p1.tests.2 [41] W h)
  rw [hp1] at KN1
  rw [hN, take_yes hN] at KT
  rw [hr]
  obtain ⟨L, hL⟩ : ∃ L, p1.tests.1 = L := ⟨_, rfl⟩
  obtain ⟨p2, hp2⟩ : ∃ q, p1.tests.2 = q := ⟨_, rfl⟩
  rw [hL, hp2] at KL
  rw [hp2] at KN2
  obtain ⟨p3, hp3⟩ : ∃ q, p2.need [41] = q := ⟨_, rfl⟩
  rw [hp3] at KN2
  rw [hL, hp2, hp3]
  rw [hp2, hp3] at hL3
  have HL1 := Lib.hid hL1
  have HL2 : Hid (p2.L = p0.L) := Lib.hid (by rw [← hp2]; unfold PS.tests; rw [more_L, test_L, hL1])
  have HL3 := Lib.hid hL3
  have k1 : Blk (w.alloc (.cells #[.bool false, .bool false, .slice none 0 0] 47)) w.heap.size 47 #[.bool false, .bool false, .slice none 0 0] := Blk.new _ _ _
  clear hTA hok hN hr hp1 hL1 hL3 hL hp2 hp3
  go_enter Tryz.func27, Tryz.ntmps27
  go_wp2_with fail
  refine (HT.out _ (by (repeat' (first | (with_reducible exact Below.refl _ _) | (with_reducible assumption) | (with_reducible refine balloc ?_ _) | (with_reducible refine Below.drew ?_) | (with_reducible refine bset ?_ ?_ _) | (with_reducible refine bstep ?_ (by with_reducible assumption)) | (with_reducible refine bturn ?_ (by with_reducible assumption) ?_) | go_size)))).mono ?_
  rintro e w1 ⟨rfl, hb1⟩
  have k2 := k1.step hb1
  have hb01 : Below w.heap.size w w1 := by (repeat' (first | (with_reducible exact Below.refl _ _) | (with_reducible assumption) | (with_reducible refine balloc ?_ _) | (with_reducible refine Below.drew ?_) | (with_reducible refine bset ?_ ?_ _) | (with_reducible refine bstep ?_ (by with_reducible assumption)) | (with_reducible refine bturn ?_ (by with_reducible assumption) ?_) | go_size))
  clear k1 HT
  go_wp2_with fail
  refine (HP.out _ (by (repeat' (first | (with_reducible exact Below.refl _ _) | (with_reducible assumption) | (with_reducible refine balloc ?_ _) | (with_reducible refine Below.drew ?_) | (with_reducible refine bset ?_ ?_ _) | (with_reducible refine bstep ?_ (by with_reducible assumption)) | (with_reducible refine bturn ?_ (by with_reducible assumption) ?_) | go_size)))).mono ?_
  rintro e w2 ⟨b, A, c, rfl, hbb, h2, hb2⟩
  have k3 := k2.step hb2
  have hb02 : Below w.heap.size w w2 := by (repeat' (first | (with_reducible exact Below.refl _ _) | (with_reducible assumption) | (with_reducible refine balloc ?_ _) | (with_reducible refine Below.drew ?_) | (with_reducible refine bset ?_ ?_ _) | (with_reducible refine bstep ?_ (by with_reducible assumption)) | (with_reducible refine bturn ?_ (by with_reducible assumption) ?_) | go_size))
  have hlb := h2.blk.lt
  have hl3 := k3.lt
  have H2 := Lib.hid h2
  have hz1 := hb01.size
  have hz0 := hb1.size
  simp only [World.size_alloc] at hz0
  clear k2 HP h2 hb1 hb2 hb01
  go_wp2_with fail
  have kc : Blk (w2.alloc (.cells #[.pointer (some ⟨b, 0, none⟩)] 87)) w2.heap.size 87 #[.pointer (some ⟨b, 0, none⟩)] := Blk.new _ _ _
  refine (KT.out b A c _ (H2.out.step (by (repeat' (first | (with_reducible exact Below.refl _ _) | (with_reducible assumption) | (with_reducible refine balloc ?_ _) | (with_reducible refine Below.drew ?_) | (with_reducible refine bset ?_ ?_ _) | (with_reducible refine bstep ?_ (by with_reducible assumption)) | (with_reducible refine bturn ?_ (by with_reducible assumption) ?_) | go_size))))).mono ?_
  rintro e w3 ⟨rfl, h3, g3⟩
  have g03 : Gr b w2 w3 := (Gr.of (by (repeat' (first | (with_reducible exact Below.refl _ _) | (with_reducible assumption) | (with_reducible refine balloc ?_ _) | (with_reducible refine Below.drew ?_) | (with_reducible refine bset ?_ ?_ _) | (with_reducible refine bstep ?_ (by with_reducible assumption)) | (with_reducible refine bturn ?_ (by with_reducible assumption) ?_) | go_size)))).trans g3
  have hz3 := g3.size
  simp only [World.size_alloc] at hz3
  have kc3 := kc.gr g3 (by omega)
  have kr3 := k3.gr g03 (by omega)
  have H3 := Lib.hid h3
  clear kc k3 h3 g3
  have KC3 := Lib.hid kc3
  have hlu := kc3.lt; have hllu := lts hlu; have qu0 := kc3.cell 0; simp at qu0; have zu0 := kc3.frozen 0; have Hkc3 := Lib.hid kc3; clear kc3
  go_wp2_with fail
  have kt : Blk (w3.alloc (.cells #[.bool false, .bool true, .slice none 0 0] 47)) w3.heap.size 47 #[.bool false, .bool true, .slice none 0 0] := Blk.new _ _ _

  refine (KN1.out b A c _ (H3.out.step (by (repeat' (first | (with_reducible exact Below.refl _ _) | (with_reducible assumption) | (with_reducible refine balloc ?_ _) | (with_reducible refine Below.drew ?_) | (with_reducible refine bset ?_ ?_ _) | (with_reducible refine bstep ?_ (by with_reducible assumption)) | (with_reducible refine bturn ?_ (by with_reducible assumption) ?_) | go_size))))).mono ?_
  rintro e w3b ⟨rfl, h3b, g3b⟩
  have hz3b := g3b.size
  simp only [World.size_alloc] at hz3b
  have g04 := (g03.alloc (.cells #[.bool false, .bool true, .slice none 0 0] 47)).trans g3b
  have kc3b := (KC3.out.alloc _).gr g3b (by omega)
  have kr3b := (kr3.alloc _).gr g3b (by omega)
  have kt3b := kt.gr g3b (by omega)
  have KC3b := Lib.hid kc3b
  clear kr3 kt g3b g03 KN1 qu0 zu0 hlu hllu
  have hlu := kc3b.lt; have hllu := lts hlu; have qu0 := kc3b.cell 0; simp at qu0; have zu0 := kc3b.frozen 0; have Hkc3b := Lib.hid kc3b; clear kc3b
  go_wp2_with fail
  refine (KL.out b A c _ h3b).mono ?_
  rintro e w4 ⟨⟨B, cp, rfl, hRM, hbase⟩, h4, g4⟩
  have hz4 := g4.size
  have kc4 := KC3b.out.gr g4 (by omega)
  have kr4 := kr3b.gr g4 (by omega)
  have kt4 := kt3b.gr g4 (by omega)
  have g24 := g04.trans g4
  clear kr3b kt3b g4 g04 h3b
  have hRB : ∀ g o, B = some ⟨g, o, none⟩ → w3.heap.size + 1 ≤ g := fun g o e => by have := hbase g o e; omega
  have HB := Lib.hid hRB
  have HRM := Lib.hid hRM
  have H4 := Lib.hid h4
  have KT4 := Lib.hid kt4
  have KC4 := Lib.hid kc4
  clear hRM hRB hbase h4 KL KT H3 KC3 qu0 zu0 hlu hllu kc4
  have hlt := kt4.lt; have hllt := lts hlt; have qt0 := kt4.cell 0; have qt1 := kt4.cell 1; have qt2 := kt4.cell 2; simp at qt0 qt1 qt2; have zt0 := kt4.frozen 0; have zt1 := kt4.frozen 1; have zt2 := kt4.frozen 2; have Hkt4 := Lib.hid kt4; clear kt4
  go_upto_region 8 with fail
  have kt5 : Blk (w4.setCell ⟨w3.heap.size, 2, none⟩ (.slice B L.length cp)) w3.heap.size 47 #[.bool false, .bool true, .slice B L.length cp] := by
    have := KT4.out.set_ 2 (.slice B L.length cp)
    simpa using this
  have t5 : Turned w4 (w4.setCell ⟨w3.heap.size, 2, none⟩ (.slice B L.length cp)) w3.heap.size := Turned.setCell _ _ _ _
  generalize w4.setCell ⟨w3.heap.size, 2, none⟩ (.slice B L.length cp) = w5 at *
  have kc5 := KC4.out.turn t5 (by omega)
  have kr5 := kr4.turn t5 (by omega)
  have h5 : PB w5 b A c p2 := H2.out.turnF HL2.out.symm H4.out t5 (by omega)
  have g25 : Gr b w2 w5 := Gr.turnFar g24 t5 (by omega)
  have rm5 : RM clT 13 w5 B L := HRM.out.gr ((Gr.refl w3.heap.size w4).turn t5) (fun g o e => by have := HB.out g o e; omega)
  have hz5 := t5.size
  clear HRM H4 KT4 KC4 kr4 g24 t5 qt0 qt1 qt2 zt0 zt1 zt2 hlt hllt Hkt4
  have KT5 := Lib.hid kt5
  have KC5 := Lib.hid kc5

  have hlt := kt5.lt; have hllt := lts hlt; have qt0 := kt5.cell 0; have qt1 := kt5.cell 1; have qt2 := kt5.cell 2; simp at qt0 qt1 qt2; have zt0 := kt5.frozen 0; have zt1 := kt5.frozen 1; have zt2 := kt5.frozen 2; have Hkt5 := Lib.hid kt5; clear kt5
  have hlu := kc5.lt; have hllu := lts hlu; have qu0 := kc5.cell 0; simp at qu0; have zu0 := kc5.frozen 0; have Hkc5 := Lib.hid kc5; clear kc5
  go_wp2_with fail
  refine (KN2.out b A c _ h5).mono ?_
  rintro e w6 ⟨rfl, h6, g6⟩
  have hz6 := g6.size
  have kc6 := KC5.out.gr g6 (by omega)
  have kr6 := kr5.gr g6 (by omega)
  have kt6 := KT5.out.gr g6 (by omega)
  have g26 := g25.trans g6
  have rm6 := rm5.gr g6 (fun g o e => by have := HB.out g o e; omega)
  clear qt0 qt1 qt2 zt0 zt1 zt2 hlt hllt Hkt5 qu0 zu0 hlu hllu Hkc5 kr5 h5 g25 rm5 g6 KN2 KT5 KC5
  have KC6 := Lib.hid kc6
  have hlu := kc6.lt; have hllu := lts hlu; have qu0 := kc6.cell 0; simp at qu0; have zu0 := kc6.frozen 0; have Hkc6 := Lib.hid kc6; clear kc6
  go_wp2_with fail
  refine (KE.out b A c p3 _ h6).mono ?_
  rintro e w7 ⟨rfl, hb7⟩
  have kc7 := KC6.out.step hb7
  have kr7 := kr6.step hb7
  have kt7 := Lib.hid (kt6.step hb7)
  have h7 := h6.step hb7
  have g27 := g26.bstep hb7
  have rm7 := Lib.hid (rm6.step hb7)
  have hz7 := hb7.size
  clear KC6 kr6 kt6 h6 g26 rm6 hb7 qu0 zu0 hlu hllu 
  have KC7 := Lib.hid kc7
  by_cases he : p3.e = 0
  · cases hE : p3.ended with
    | false =>
      have KD3 := Lib.hid (KD.out b A c p3)
      rw [hE] at KD3
      obtain ⟨p4, hp4⟩ : ∃ q, p3.fail 5 = q := ⟨_, rfl⟩
      have hp4e : p4.e = 5 := by rw [← hp4]; unfold PS.fail; rw [if_pos he]
      have KF3 := Lib.hid (KF.out b A c p3)
      rw [hp4] at KF3
      have HF : Hid (outT true L p3 = (zeroTs, p4.a, 5)) := Lib.hid (by rw [← hp4]; exact out_1 he hE)
      clear hp4 hE
      have hlu := kc7.lt; have hllu := lts hlu; have qu0 := kc7.cell 0; simp at qu0; have zu0 := kc7.frozen 0; have Hkc7 := Lib.hid kc7; clear kc7
      go_wp2_with fail
      refine (KD3.out _ h7).mono ?_
      rintro e w8 ⟨rfl, hb8⟩
      have kc8 := KC7.out.step hb8
      have kr8 := kr7.step hb8
      have h8 := h7.step hb8
      have g28 := g27.bstep hb8
      have hz8 := hb8.size
      have KC8 := Lib.hid kc8
      clear kr7 h7 g27 hb8 qu0 zu0 hlu hllu
      have hlu := kc8.lt; have hllu := lts hlu; have qu0 := kc8.cell 0; simp at qu0; have zu0 := kc8.frozen 0; have Hkc8 := Lib.hid kc8; clear kc8
      go_wp2_with fail
      refine (KF3.out _ h8).mono ?_
      rintro e w9 ⟨rfl, h9, g9⟩
      have hz9 := g9.size
      have kc9 := KC8.out.gr g9 (by omega)
      have kr9 := kr8.gr g9 (by omega)
      have g29 := g28.trans g9
      clear kr8 h8 g28 g9 qu0 zu0 hlu hllu
      have hlu := kc9.lt; have hllu := lts hlu; have qu0 := kc9.cell 0; simp at qu0; have zu0 := kc9.frozen 0; have Hkc9 := Lib.hid kc9; clear kc9
      go_wp2_with fail
      refine (KE.out b A c p4 _ h9).mono ?_
      rintro e w10 ⟨rfl, hb10⟩
      have kr10 := kr9.step hb10
      have g210 := g29.bstep hb10
      rw [hp4e]
      clear kr9 g29 hb10 qu0 zu0 hlu hllu
      go_wp2_with (refine wpList_store_blk kr10 rfl _ _ _ (by rfl) _ (by rfl) (by rfl) (by (repeat (first | (with_reducible exact kr10) | (with_reducible refine Blk.alloc ?_ _) | (with_reducible refine Blk.drew ?_) | (with_reducible refine Blk.far ?_ (by first | (simp; done) | (simp; omega)) _) | (with_reducible refine Blk.turn ?_ (by with_reducible assumption) (by omega))))) (by rfl) (by kernel_rfl) (by simp [Value.oneCell']) ?_; intro wt kr10n ht)
      refine ret_blk3 rfl kr10n rfl Tryz.underlying47 rfl (by kernel_rfl) rfl ?_
      exact ⟨by rw [HF.out]; exact ⟨none, 0, rfl, RM.nil _ _, fun g o h => by cases h⟩, bturn (Gr.below g210 hb02 (by omega)) ht (Nat.le_refl _)⟩
    | true =>
      have KD3 := Lib.hid (KD.out b A c p3)
      rw [hE] at KD3
      have HF : Hid (outT true L p3 = (⟨false, true, L⟩, 0, 0)) := Lib.hid (out_2 he hE)
      clear hE
      have hlu := kc7.lt; have hllu := lts hlu; have qu0 := kc7.cell 0; simp at qu0; have zu0 := kc7.frozen 0; have Hkc7 := Lib.hid kc7; clear kc7
      go_wp2_with fail
      refine (KD3.out _ h7).mono ?_
      rintro e w8 ⟨rfl, hb8⟩
      have kc8 := KC7.out.step hb8
      have kr8 := kr7.step hb8
      have kt8 := Lib.hid (kt7.out.step hb8)
      have h8 := h7.step hb8
      have g28 := g27.bstep hb8
      have rm8 := Lib.hid (rm7.out.step hb8)
      have hz8 := hb8.size
      clear kr7 h7 g27 hb8 qu0 zu0 hlu hllu
      have hlu := kc8.lt; have hllu := lts hlu; have qu0 := kc8.cell 0; simp at qu0; have zu0 := kc8.frozen 0; have Hkc8 := Lib.hid kc8; clear kc8
      go_wp2_with fail
      refine (KE.out b A c p3 _ h8).mono ?_
      rintro e w9 ⟨rfl, hb9⟩
      have kt9 := kt8.out.step hb9
      have kr9 := kr8.step hb9
      have g29 := g28.bstep hb9
      have rm9 := Lib.hid (rm8.out.step hb9)
      have hz9 := hb9.size
      clear kr8 h8 g28 hb9 qu0 zu0 hlu hllu
      go_wp2_with (first | (refine wpList_load_blk kt9 rfl _ _ (by rfl) (by rfl) (by (repeat (first | (with_reducible exact kt9) | (with_reducible refine Blk.alloc ?_ _) | (with_reducible refine Blk.drew ?_) | (with_reducible refine Blk.far ?_ (by first | (simp; done) | (simp; omega)) _) | (with_reducible refine Blk.turn ?_ (by with_reducible assumption) (by omega))))) _ Tryz.underlying47 rfl (by kernel_rfl) ?_) | (refine wpList_store_blk kr9 rfl _ _ _ (by rfl) _ (by rfl) (by rfl) (by (repeat (first | (with_reducible exact kr9) | (with_reducible refine Blk.alloc ?_ _) | (with_reducible refine Blk.drew ?_) | (with_reducible refine Blk.far ?_ (by first | (simp; done) | (simp; omega)) _) | (with_reducible refine Blk.turn ?_ (by with_reducible assumption) (by omega))))) (by rfl) (by kernel_rfl) (by simp [Value.oneCell']) ?_; intro wt kr9n ht))
      refine ret_blk3 rfl kr9n rfl Tryz.underlying47 rfl (by kernel_rfl) rfl ?_
      exact ⟨by rw [HF.out]; exact ⟨B, cp, rfl, rm9.out.gr ((Gr.refl w.heap.size w9).turn ht) (fun g o e => by have := HB.out g o e; omega), fun g o e => by have := HB.out g o e; omega⟩, bturn (Gr.below g29 hb02 (by omega)) ht (Nat.le_refl _)⟩
  · have hneb : (p3.e != 0) = true := by simpa using he
    have HF : Hid (outT true L p3 = (zeroTs, p3.a, p3.e)) := Lib.hid (out_3 he)
    have hlu := kc7.lt; have hllu := lts hlu; have qu0 := kc7.cell 0; simp at qu0; have zu0 := kc7.frozen 0; have Hkc7 := Lib.hid kc7; clear kc7
    go_wp2_with fail
    refine (KE.out b A c p3 _ h7).mono ?_
    rintro e w9 ⟨rfl, hb9⟩
    have kr9 := kr7.step hb9
    have g29 := g27.bstep hb9
    clear kr7 h7 g27 hb9 qu0 zu0 hlu hllu
    go_wp2_with (refine wpList_store_blk kr9 rfl _ _ _ (by rfl) _ (by rfl) (by rfl) (by (repeat (first | (with_reducible exact kr9) | (with_reducible refine Blk.alloc ?_ _) | (with_reducible refine Blk.drew ?_) | (with_reducible refine Blk.far ?_ (by first | (simp; done) | (simp; omega)) _) | (with_reducible refine Blk.turn ?_ (by with_reducible assumption) (by omega))))) (by rfl) (by kernel_rfl) (by simp [Value.oneCell']) ?_; intro wt kr9n ht)
    refine ret_blk3 rfl kr9n rfl Tryz.underlying47 rfl (by kernel_rfl) rfl ?_
    exact ⟨by rw [HF.out]; exact ⟨none, 0, rfl, RM.nil _ _, fun g o h => by cases h⟩, bturn (Gr.below g29 hb02 (by omega)) ht (Nat.le_refl _)⟩
theorem uparse_any (hTA : Hid TestAny) (m : Int) (s : ByteArray) (hs : s.size ≤ 9223372036854775807) (w : World) (hw : OKW m w) :
    Calls Tryz.prog 27 #[.string s] w fun e w' => UPOut w w' (unaryS (lxX m) s.data.toList) e ∧ Below w.heap.size w w' := by
  have HT := Lib.hid (fun (W : World) (_ : Below w.heap.size w W) => utrim s hs W)
  have hcmp : ((⟨(Lib.trimS s.data.toList (⟨#[32, 9, 13, 10]⟩ : ByteArray).data.toList).toArray⟩ : ByteArray).toList == [45]) = isAny s.data.toList := by
    rw [Lib.toList_data]
    exact any_trim _
  unfold unaryS
  cases ha : isAny s.data.toList with
  | true =>
    rw [if_pos rfl]
    exact uparse_any_t s _ (hcmp.trans ha) w HT
  | false =>
    rw [if_neg (by simp)]
    have HP := Lib.hid (fun (W : World) (hb : Below w.heap.size w W) => newp_any m s _ rfl W (hw.step hb))
    have hok : ∀ t ∈ (newP (toksS (lxX m) s.data.toList) s.data.toList.length).L, tkOK t := fun t ht => ((toksS_ok m w hw _).1 t ht).1
    cases hN : (newP (toksS (lxX m) s.data.toList) s.data.toList.length).isS notB with
    | true => exact uparse_t hTA s _ (hcmp.trans ha) _ hok hN w HT HP
    | false => exact uparse_f hTA s _ (hcmp.trans ha) _ hok hN w HT HP
end Go.Proofs.YtkkeplmaphcblaaGreatDoor

namespace Go.Proofs.YtkkeplmaphcblaaGreatDoor
open Go.RowKit

/-- A parser of sound tokens, and its places lie in the text. -/
structure POK (N : Nat) (p : PS) : Prop where
  en : p.en ≤ N
  lo : 0 ≤ p.a
  hi : p.a ≤ N
  tk : ∀ t ∈ p.L, tkOK t ∧ t.a ≤ N
section
variable {N : Nat} {p : PS}
theorem POK.at_ (h : POK N p) : 0 ≤ p.at' ∧ p.at' ≤ N := by
  unfold PS.at'
  split
  · have := h.en
    omega
  · rename_i t ht
    have := (h.tk t (List.mem_of_getElem? ht)).2
    omega
theorem POK.fail (h : POK N p) (c : Int) : POK N (p.fail c) := by
  unfold PS.fail
  split
  · exact ⟨h.en, h.at_.1, h.at_.2, h.tk⟩
  · exact h
theorem POK.adv (h : POK N p) : POK N p.adv := ⟨h.en, h.lo, h.hi, h.tk⟩
theorem POK.take (h : POK N p) (s : Bs) : POK N (p.take s) := by
  unfold PS.take
  split
  · exact h.adv
  · exact h
theorem POK.need (h : POK N p) (s : Bs) : POK N (p.need s) := by
  unfold PS.need
  split
  · exact h.adv
  · exact h.fail 5
theorem POK.lit (h : POK N p) : POK N p.lit.2 := by
  unfold PS.lit
  split
  · exact (h.take _).fail 5
  · split
    · split
      · exact (h.take _).adv
      · exact (h.take _).fail 5
    · exact (h.take _).adv
theorem POK.rank (h : POK N p) : POK N p.rank.2 := by
  unfold PS.rank
  split
  · exact h.fail 5
  · exact h.lit
theorem POK.close (h : POK N p) : POK N p.close := by
  unfold PS.close
  split
  · exact h.adv
  · exact h.fail 5
theorem POK.test (h : POK N p) : POK N p.test.2 := by
  unfold PS.test
  split
  · exact h.adv.rank
  · split
    · exact h.adv.rank
    · split
      · exact h.adv.rank
      · split
        · exact h.adv.rank
        · split
          · dsimp only
            split
            · exact ((h.adv.rank.need _).fail 5).close
            · exact (h.adv.rank.need _).rank.close
          · exact h.lit
theorem POK.more : ∀ (f : Nat) (l : List Tst) {p : PS}, POK N p → POK N (moreT f l p).2
  | 0, _, _, h => h
  | f + 1, l, p, h => by
    unfold moreT
    split
    · split
      · exact h.fail 10
      · exact POK.more f _ h.adv.test
    · exact h
theorem POK.fin (h : POK N p) : POK N p.fin := by
  unfold PS.fin
  split
  · exact h.fail 5
  · exact h

theorem valT_vs {t : Tk} {v : Vl} (ht : tkOK t) (h : valT t = some v) : vSound v := by
  unfold valT at h
  split at h
  · rename_i h1
    injection h with h
    subst h
    exact .inr (.inl ⟨rfl, (ht.1 h1).2, rfl, rfl⟩)
  · split at h
    · rename_i h2
      injection h with h
      subst h
      exact .inr (.inr (.inl ⟨rfl, rfl, rfl, rfl, (ht.2.1 h2).1, (ht.2.1 h2).2⟩))
    · split at h
      · rename_i h3
        injection h with h
        subst h
        exact .inr (.inr (.inr (.inr ⟨rfl, rfl, rfl, rfl, (ht.2.2 h3).1, (ht.2.2 h3).2⟩)))
      · split at h
        · injection h with h
          subst h
          exact .inr (.inr (.inr (.inl ⟨rfl, rfl, rfl, rfl, .inr rfl⟩)))
        · split at h
          · injection h with h
            subst h
            exact .inr (.inr (.inr (.inl ⟨rfl, rfl, rfl, rfl, .inl rfl⟩)))
          · split at h
            · injection h with h
              subst h
              exact .inl ⟨rfl, rfl, rfl, rfl, rfl⟩
            · cases h
theorem val_vs (h : POK N p) {v : Vl} (hv : p.val = some v) : vSound v := by
  unfold PS.val at hv
  split at hv
  · split at hv
    · cases hv
    · rename_i t ht
      exact valT_vs (h.tk t (List.mem_of_getElem? ht)).1 hv
  · cases hv
theorem vs_neg {v : Vl} (h : vSound v) (h1 : v.k = 1) : vSound { v with n := -v.n } := by
  obtain ⟨k, n, s, t, m⟩ := v
  simp only at h1
  subst h1
  rcases h with ⟨h1, _⟩ | ⟨_, h2, h3, h4⟩ | ⟨h1, _⟩ | ⟨h1, _⟩ | ⟨h1, _⟩
  · exact absurd (show (1 : Int) = 0 from h1) (by decide)
  · exact .inr (.inl ⟨rfl, sound_neg h2, h3, h4⟩)
  · exact absurd (show (1 : Int) = 2 from h1) (by decide)
  · exact absurd (show (1 : Int) = 3 from h1) (by decide)
  · exact absurd (show (1 : Int) = 4 from h1) (by decide)
theorem lit_vs (h : POK N p) (he : p.lit.2.e = 0) : vSound p.lit.1 := by
  unfold PS.lit at he ⊢
  cases hv : (p.take [45]).val with
  | none =>
    rw [hv] at he
    exact absurd he (fail_e (by decide))
  | some v =>
    rw [hv] at he
    simp only at he ⊢
    have hs := val_vs (h.take _) hv
    by_cases hm : p.isS [45] = true
    · rw [if_pos hm] at he ⊢
      by_cases hk : v.k = 1
      · rw [if_pos hk]
        exact vs_neg hs hk
      · rw [if_neg hk] at he
        exact absurd he (fail_e (by decide))
    · rw [if_neg hm]
      exact hs
theorem rank_vs (h : POK N p) (he : p.rank.2.e = 0) : vSound p.rank.1 ∧ vRank p.rank.1 := by
  unfold PS.rank at he ⊢
  split at he
  · exact absurd he (fail_e (by decide))
  · rename_i hc
    rw [if_neg hc]
    refine ⟨lit_vs h he, ?_⟩
    unfold vRank
    by_cases h1 : p.lit.1.k = 1
    · exact .inl h1
    · exact .inr (Classical.byContradiction fun h4 => hc ⟨he, h1, h4⟩)
theorem zero_vs : vSound zeroV := .inl ⟨rfl, rfl, rfl, rfl, rfl⟩
theorem test_vs (h : POK N p) (he : p.test.2.e = 0) : tSound p.test.1 := by
  have less : ∀ k : Int, (k = 2 ∨ k = 3 ∨ k = 4 ∨ k = 5) → p.adv.rank.2.e = 0 → tSound ⟨k, p.adv.rank.1, zeroV, false, false⟩ := fun k hk he => by
    obtain ⟨h1, h2⟩ := rank_vs h.adv he
    exact ⟨h1, zero_vs, .inr ⟨.inr ⟨hk, h2⟩, rfl, rfl, rfl⟩⟩
  unfold PS.test at he ⊢
  by_cases c1 : p.isS [60] = true
  · rw [if_pos c1] at he ⊢
    exact less 2 (.inl rfl) he
  · rw [if_neg c1] at he ⊢
    by_cases c2 : p.isS [60, 61] = true
    · rw [if_pos c2] at he ⊢
      exact less 3 (.inr (.inl rfl)) he
    · rw [if_neg c2] at he ⊢
      by_cases c3 : p.isS [62] = true
      · rw [if_pos c3] at he ⊢
        exact less 4 (.inr (.inr (.inl rfl))) he
      · rw [if_neg c3] at he ⊢
        by_cases c4 : p.isS [62, 61] = true
        · rw [if_pos c4] at he ⊢
          exact less 5 (.inr (.inr (.inr rfl))) he
        · rw [if_neg c4] at he ⊢
          by_cases c5 : p.isS [91] = true ∨ p.isS [40] = true ∨ p.isS [93] = true
          · rw [if_pos c5] at he ⊢
            dsimp only at he ⊢
            by_cases c6 : (p.adv.rank.2.need [46, 46]).rank.2.e = 0 ∧ (p.adv.rank.2.need [46, 46]).rank.1.k ≠ p.adv.rank.1.k
            · rw [if_pos c6] at he
              exact absurd he (close_pre _ (fail_e (by decide)))
            · rw [if_neg c6] at he
              have e1 : (p.adv.rank.2.need [46, 46]).rank.2.e = 0 := Classical.byContradiction fun hn => close_pre _ hn he
              have e2 : (p.adv.rank.2.need [46, 46]).e = 0 := Classical.byContradiction fun hn => rank_pre _ hn e1
              have e3 : p.adv.rank.2.e = 0 := Classical.byContradiction fun hn => need_pre _ _ hn e2
              obtain ⟨h1, h2⟩ := rank_vs h.adv e3
              obtain ⟨h3, h4⟩ := rank_vs (h.adv.rank.need [46, 46]) e1
              refine ⟨h1, h3, .inl ⟨rfl, h2, ?_⟩⟩
              exact Classical.byContradiction fun hn => c6 ⟨e1, hn⟩
          · rw [if_neg c5] at he ⊢
            exact ⟨lit_vs h he, zero_vs, .inr ⟨.inl rfl, rfl, rfl, rfl⟩⟩
theorem more_pre (f : Nat) (l : List Tst) (p : PS) (hp : ¬ p.e = 0) : ¬ (moreT f l p).2.e = 0 := by
  cases f with
  | zero => exact hp
  | succ f =>
    unfold moreT
    rw [if_neg (by rw [isS_err hp]; decide)]
    exact hp
theorem more_vs : ∀ (f : Nat) (l : List Tst) {p : PS}, POK N p → (∀ t ∈ l, tSound t) → 1 ≤ l.length → l.length ≤ 8 → (moreT f l p).2.e = 0 → (∀ t ∈ (moreT f l p).1, tSound t) ∧ 1 ≤ (moreT f l p).1.length ∧ (moreT f l p).1.length ≤ 8
  | 0, l, p, _, h1, h2, h3, _ => ⟨h1, h2, h3⟩
  | f + 1, l, p, h, h1, h2, h3, he => by
    unfold moreT at he ⊢
    by_cases c1 : p.isS [44] = true
    · rw [if_pos c1] at he ⊢
      by_cases c2 : l.length = 8
      · rw [if_pos c2] at he
        exact absurd he (fail_e (by decide))
      · rw [if_neg c2] at he ⊢
        have e1 : p.adv.test.2.e = 0 := Classical.byContradiction fun hn => more_pre _ _ _ hn he
        have ht := test_vs h.adv e1
        refine more_vs f _ h.adv.test (fun t hm => ?_) (by rw [List.length_append]; omega) (by rw [List.length_append, List.length_singleton]; omega) he
        rcases List.mem_append.1 hm with g | g
        · exact h1 t g
        · rw [List.mem_singleton.1 g]
          exact ht
    · rw [if_neg c1]
      exact ⟨h1, h2, h3⟩
theorem tests_vs (h : POK N p) (he : p.tests.2.e = 0) : (∀ t ∈ p.tests.1, tSound t) ∧ 1 ≤ p.tests.1.length ∧ p.tests.1.length ≤ 8 := by
  have e1 : p.test.2.e = 0 := Classical.byContradiction fun hn => more_pre _ _ _ hn he
  exact more_vs 9 [p.test.1] h.test (fun t ht => by rw [List.mem_singleton.1 ht]; exact test_vs h e1) (Nat.le_refl _) (by simp) he
theorem out_vs {no : Bool} {l : List Tst} (h : POK N p) (hl : p.e = 0 → (∀ t ∈ l, tSound t) ∧ 1 ≤ l.length ∧ l.length ≤ 8) : ((outT no l p).2.2 = 0 → tsSound (outT no l p).1) ∧ 0 ≤ (outT no l p).2.1 ∧ (outT no l p).2.1 ≤ N := by
  refine ⟨fun he => ?_, ?_⟩
  · obtain ⟨h1, h2⟩ := out_ok he
    rw [h2]
    obtain ⟨g1, g2, g3⟩ := hl (fin_ok h1).1
    unfold tsSound
    simp only [Bool.false_eq_true, if_false]
    exact ⟨g2, g3, g1⟩
  · unfold outT
    split
    · exact ⟨Int.le_refl _, Int.natCast_nonneg _⟩
    · exact ⟨h.fin.lo, h.fin.hi⟩
theorem read_vs (h : POK N p) : ((readT p).2.2 = 0 → tsSound (readT p).1) ∧ 0 ≤ (readT p).2.1 ∧ (readT p).2.1 ≤ N := by
  unfold readT
  split
  · refine out_vs ((h.adv.need _).test.more 9 _ |>.need _) fun he => ?_
    exact tests_vs (h.adv.need _) (Classical.byContradiction fun hn => need_pre _ _ hn he)
  · exact out_vs (h.test.more 9 _) fun he => tests_vs h he
end
theorem once_plain (m : Int) (w : World) (hw : OKW m w) (l : Bs) : ((unaryS (lxX m) l).2.2 = 0 → tsSound (unaryS (lxX m) l).1) ∧ 0 ≤ (unaryS (lxX m) l).2.1 ∧ (unaryS (lxX m) l).2.1 ≤ l.length := by
  unfold unaryS
  split
  · exact ⟨fun _ => ⟨rfl, rfl⟩, Int.le_refl _, Int.natCast_nonneg _⟩
  · obtain ⟨h1, h2, _⟩ := toksS_ok m w hw l
    exact read_vs ⟨Nat.le_refl _, Int.natCast_nonneg _, Int.ofNat_le.2 h2, h1⟩
end Go.Proofs.YtkkeplmaphcblaaGreatDoor

namespace Go.Proofs.YtkkeplmaphcblaaGreatDoor

def mayP (r : Nat) : Prop := r = 9 ∨ r = 10 ∨ r = 13 ∨ 32 ≤ r ∧ r ≤ 55295 ∨ 57344 ≤ r ∧ r ≤ 65533 ∨ 65536 ≤ r ∧ r ≤ 1114111
instance (r : Nat) : Decidable (mayP r) := by unfold mayP; infer_instance
/-- The bytes that follow: d of them, from place k on. -/
def contF (t : ByteArray) : Nat → Nat → Nat → Option Nat
  | 0, _, r => some r
  | d + 1, k, r => if (t.get! k).toNat < 128 ∨ 192 ≤ (t.get! k).toNat then none else contF t d (k + 1) (r * 64 + (t.get! k).toNat - 128)
def firstO (n least : Nat) : Option Nat → Nat × Nat
  | none => (0, 0)
  | some r => if r < least ∨ ¬ mayP r then (0, 0) else (r, n)
def firstL (t : ByteArray) (n r least : Nat) : Nat × Nat := if t.size < n then (0, 0) else firstO n least (contF t (n - 1) 1 r)
def firstV (t : ByteArray) : Nat × Nat :=
  if (t.get! 0).toNat < 128 then firstL t 1 (t.get! 0).toNat 0
  else if 192 ≤ (t.get! 0).toNat ∧ (t.get! 0).toNat < 224 then firstL t 2 ((t.get! 0).toNat - 192) 128
  else if 224 ≤ (t.get! 0).toNat ∧ (t.get! 0).toNat < 240 then firstL t 3 ((t.get! 0).toNat - 224) 2048
  else if 240 ≤ (t.get! 0).toNat ∧ (t.get! 0).toNat < 248 then firstL t 4 ((t.get! 0).toNat - 240) 65536
  else (0, 0)
def okD (d : Nat × Nat) : Nat × Nat := if (d.1 = 65533 ∧ d.2 = 1) ∨ ¬ mayP d.1 then (0, 0) else d

theorem okD_bad : okD (65533, 1) = (0, 0) := by decide
set_option maxHeartbeats 4000000 in
theorem first_2 (n b0 b1 b2 b3 : Nat) (h1 : b1 < 256) (hb : 192 ≤ b0 ∧ b0 < 224) (hn : 1 ≤ n) :
    okD (Lib.decodeN n b0 b1 b2 b3) = if n < 2 then (0, 0) else firstO 2 128 (if b1 < 128 ∨ 192 ≤ b1 then none else some ((b0 - 192) * 64 + b1 - 128)) := by
  have e : Lib.decodeN n b0 b1 b2 b3 = if 1 < n ∧ b1 / 64 = 2 then (if b0 % 32 * 64 + b1 % 64 ≥ 128 then (b0 % 32 * 64 + b1 % 64, 2) else (65533, 1)) else (65533, 1) := by
    unfold Lib.decodeN
    rw [if_neg (by omega)]
    by_cases h : 1 < n ∧ b1 / 64 = 2
    · rw [if_pos ⟨by omega, h⟩, if_pos h]
    · rw [if_neg (fun c => h c.2), if_neg (by omega), if_neg (by omega), if_neg h]
  rw [e]
  by_cases hn2 : n < 2
  · rw [if_neg (by omega), if_pos hn2]; exact okD_bad
  · rw [if_neg hn2]
    by_cases hc : b1 < 128 ∨ 192 ≤ b1
    · rw [if_neg (by omega), if_pos hc]; exact okD_bad
    · rw [if_pos (by omega), if_neg hc]
      have hv : (b0 - 192) * 64 + b1 - 128 = b0 % 32 * 64 + b1 % 64 := by omega
      rw [hv]
      generalize b0 % 32 * 64 + b1 % 64 = v
      unfold firstO
      simp only []
      by_cases h : v ≥ 128
      · rw [if_pos h]
        unfold okD
        by_cases hm : mayP v
        · rw [if_neg (by simp [hm]), if_neg (by simp [hm]; omega)]
        · rw [if_pos (.inr hm), if_pos (.inr hm)]
      · rw [if_neg h, if_pos (.inl (by omega))]; exact okD_bad
set_option maxHeartbeats 4000000 in
theorem first_3 (n b0 b1 b2 b3 : Nat) (h1 : b1 < 256) (h2 : b2 < 256) (hb : 224 ≤ b0 ∧ b0 < 240) (hn : 1 ≤ n) :
    okD (Lib.decodeN n b0 b1 b2 b3) = if n < 3 then (0, 0) else firstO 3 2048 (if b1 < 128 ∨ 192 ≤ b1 then none else if b2 < 128 ∨ 192 ≤ b2 then none else some (((b0 - 224) * 64 + b1 - 128) * 64 + b2 - 128)) := by
  have e : Lib.decodeN n b0 b1 b2 b3 = if (1 < n ∧ b1 / 64 = 2) ∧ (2 < n ∧ b2 / 64 = 2) then
    (if b0 % 16 * 4096 + b1 % 64 * 64 + b2 % 64 ≥ 2048 ∧ (b0 % 16 * 4096 + b1 % 64 * 64 + b2 % 64 < 55296 ∨ (57344 ≤ b0 % 16 * 4096 + b1 % 64 * 64 + b2 % 64 ∧ b0 % 16 * 4096 + b1 % 64 * 64 + b2 % 64 ≤ 1114111))
     then (b0 % 16 * 4096 + b1 % 64 * 64 + b2 % 64, 3) else (65533, 1)) else (65533, 1) := by
    unfold Lib.decodeN
    rw [if_neg (by omega), if_neg (by omega)]
    by_cases h : (1 < n ∧ b1 / 64 = 2) ∧ (2 < n ∧ b2 / 64 = 2)
    · rw [if_pos ⟨by omega, h⟩, if_pos h]
    · rw [if_neg (fun c => h c.2), if_neg (by omega), if_neg h]
  rw [e]
  by_cases hn2 : n < 3
  · rw [if_neg (by omega), if_pos hn2]; exact okD_bad
  · rw [if_neg hn2]
    by_cases hc : b1 < 128 ∨ 192 ≤ b1
    · rw [if_neg (by omega), if_pos hc]; exact okD_bad
    · rw [if_neg hc]
      by_cases hc2 : b2 < 128 ∨ 192 ≤ b2
      · rw [if_neg (by omega), if_pos hc2]; exact okD_bad
      · rw [if_pos (by omega), if_neg hc2]
        have hv : ((b0 - 224) * 64 + b1 - 128) * 64 + b2 - 128 = b0 % 16 * 4096 + b1 % 64 * 64 + b2 % 64 := by omega
        rw [hv]
        generalize b0 % 16 * 4096 + b1 % 64 * 64 + b2 % 64 = v
        unfold firstO
        simp only []
        by_cases h : v ≥ 2048 ∧ (v < 55296 ∨ (57344 ≤ v ∧ v ≤ 1114111))
        · rw [if_pos h]
          unfold okD
          by_cases hm : mayP v
          · rw [if_neg (by simp [hm]), if_neg (by simp [hm]; omega)]
          · rw [if_pos (.inr hm), if_pos (.inr hm)]
        · rw [if_neg h, if_pos (by unfold mayP; omega)]; exact okD_bad
set_option maxHeartbeats 4000000 in
theorem first_4 (n b0 b1 b2 b3 : Nat) (h1 : b1 < 256) (h2 : b2 < 256) (h3 : b3 < 256) (hb : 240 ≤ b0 ∧ b0 < 248) (hn : 1 ≤ n) :
    okD (Lib.decodeN n b0 b1 b2 b3) = if n < 4 then (0, 0) else firstO 4 65536 (if b1 < 128 ∨ 192 ≤ b1 then none else if b2 < 128 ∨ 192 ≤ b2 then none else if b3 < 128 ∨ 192 ≤ b3 then none else some ((((b0 - 240) * 64 + b1 - 128) * 64 + b2 - 128) * 64 + b3 - 128)) := by
  have e : Lib.decodeN n b0 b1 b2 b3 = if (1 < n ∧ b1 / 64 = 2) ∧ (2 < n ∧ b2 / 64 = 2) ∧ (3 < n ∧ b3 / 64 = 2) then
    (if b0 % 8 * 262144 + b1 % 64 * 4096 + b2 % 64 * 64 + b3 % 64 ≥ 65536 ∧ (b0 % 8 * 262144 + b1 % 64 * 4096 + b2 % 64 * 64 + b3 % 64 < 55296 ∨ (57344 ≤ b0 % 8 * 262144 + b1 % 64 * 4096 + b2 % 64 * 64 + b3 % 64 ∧ b0 % 8 * 262144 + b1 % 64 * 4096 + b2 % 64 * 64 + b3 % 64 ≤ 1114111))
     then (b0 % 8 * 262144 + b1 % 64 * 4096 + b2 % 64 * 64 + b3 % 64, 4) else (65533, 1)) else (65533, 1) := by
    unfold Lib.decodeN
    rw [if_neg (by omega), if_neg (by omega), if_neg (by omega)]
    by_cases h : (1 < n ∧ b1 / 64 = 2) ∧ (2 < n ∧ b2 / 64 = 2) ∧ (3 < n ∧ b3 / 64 = 2)
    · rw [if_pos ⟨by omega, h⟩, if_pos h]
    · rw [if_neg (fun c => h c.2), if_neg h]
  rw [e]
  by_cases hn2 : n < 4
  · rw [if_neg (by omega), if_pos hn2]; exact okD_bad
  · rw [if_neg hn2]
    by_cases hc : b1 < 128 ∨ 192 ≤ b1
    · rw [if_neg (by omega), if_pos hc]; exact okD_bad
    · rw [if_neg hc]
      by_cases hc2 : b2 < 128 ∨ 192 ≤ b2
      · rw [if_neg (by omega), if_pos hc2]; exact okD_bad
      · rw [if_neg hc2]
        by_cases hc3 : b3 < 128 ∨ 192 ≤ b3
        · rw [if_neg (by omega), if_pos hc3]; exact okD_bad
        · rw [if_pos (by omega), if_neg hc3]
          have hv : (((b0 - 240) * 64 + b1 - 128) * 64 + b2 - 128) * 64 + b3 - 128 = b0 % 8 * 262144 + b1 % 64 * 4096 + b2 % 64 * 64 + b3 % 64 := by omega
          rw [hv]
          generalize b0 % 8 * 262144 + b1 % 64 * 4096 + b2 % 64 * 64 + b3 % 64 = v
          unfold firstO
          simp only []
          by_cases h : v ≥ 65536 ∧ (v < 55296 ∨ (57344 ≤ v ∧ v ≤ 1114111))
          · rw [if_pos h]
            unfold okD
            by_cases hm : mayP v
            · rw [if_neg (by simp [hm]), if_neg (by simp [hm]; omega)]
            · rw [if_pos (.inr hm), if_pos (.inr hm)]
          · rw [if_neg h, if_pos (by unfold mayP; omega)]; exact okD_bad
theorem decodeN_low (n b0 b1 b2 b3 : Nat) (hb : b0 < 128) : Lib.decodeN n b0 b1 b2 b3 = (b0, 1) := by unfold Lib.decodeN; rw [if_pos hb]
theorem decodeN_bad (n b0 b1 b2 b3 : Nat) (h1 : ¬ b0 < 128) (h2 : ¬ (192 ≤ b0 ∧ b0 < 224)) (h3 : ¬ (224 ≤ b0 ∧ b0 < 240)) (h4 : ¬ (240 ≤ b0 ∧ b0 < 248)) (hb : b0 < 256) : Lib.decodeN n b0 b1 b2 b3 = (65533, 1) := by
  unfold Lib.decodeN
  rw [if_neg h1, if_neg (by omega), if_neg (by omega), if_neg (by omega)]
theorem cont_1 (t : ByteArray) (r : Nat) : contF t (2 - 1) 1 r = if (t.get! 1).toNat < 128 ∨ 192 ≤ (t.get! 1).toNat then none else some (r * 64 + (t.get! 1).toNat - 128) := by
  rw [show 2 - 1 = 0 + 1 from rfl, contF]; rfl
theorem cont_2 (t : ByteArray) (r : Nat) : contF t (3 - 1) 1 r = if (t.get! 1).toNat < 128 ∨ 192 ≤ (t.get! 1).toNat then none else if (t.get! 2).toNat < 128 ∨ 192 ≤ (t.get! 2).toNat then none else some ((r * 64 + (t.get! 1).toNat - 128) * 64 + (t.get! 2).toNat - 128) := by
  rw [show 3 - 1 = 0 + 1 + 1 from rfl, contF, contF]; rfl
theorem cont_3 (t : ByteArray) (r : Nat) : contF t (4 - 1) 1 r = if (t.get! 1).toNat < 128 ∨ 192 ≤ (t.get! 1).toNat then none else if (t.get! 2).toNat < 128 ∨ 192 ≤ (t.get! 2).toNat then none else if (t.get! 3).toNat < 128 ∨ 192 ≤ (t.get! 3).toNat then none else some (((r * 64 + (t.get! 1).toNat - 128) * 64 + (t.get! 2).toNat - 128) * 64 + (t.get! 3).toNat - 128) := by
  rw [show 4 - 1 = 0 + 1 + 1 + 1 from rfl, contF, contF, contF]; rfl
theorem firstV_eq (t : ByteArray) (ht : 0 < t.size) : firstV t = okD (Utf8.decode t 0) := by
  rw [Lib.decode_at]
  unfold firstV firstL
  rw [cont_1, cont_2, cont_3]
  simp only [Nat.zero_add, Nat.sub_zero]
  have hb0 := (t.get! 0).toNat_lt
  have hb1 := (t.get! 1).toNat_lt
  have hb2 := (t.get! 2).toNat_lt
  have hb3 := (t.get! 3).toNat_lt
  generalize (t.get! 0).toNat = b0 at hb0 ⊢
  generalize (t.get! 1).toNat = b1 at hb1 ⊢
  generalize (t.get! 2).toNat = b2 at hb2 ⊢
  generalize (t.get! 3).toNat = b3 at hb3 ⊢
  by_cases g1 : b0 < 128
  · rw [if_pos g1, decodeN_low _ _ _ _ _ g1, if_neg (by omega)]
    show firstO 1 0 (some b0) = _
    unfold firstO okD
    simp only []
    by_cases hm : mayP b0
    · rw [if_neg (by simp [hm]), if_neg (by simp [hm]; omega)]
    · rw [if_pos (.inr hm), if_pos (.inr hm)]
  · rw [if_neg g1]
    by_cases g2 : 192 ≤ b0 ∧ b0 < 224
    · rw [if_pos g2]; exact (first_2 _ _ _ _ _ hb1 g2 ht).symm
    · rw [if_neg g2]
      by_cases g3 : 224 ≤ b0 ∧ b0 < 240
      · rw [if_pos g3]; exact (first_3 _ _ _ _ _ hb1 hb2 g3 ht).symm
      · rw [if_neg g3]
        by_cases g4 : 240 ≤ b0 ∧ b0 < 248
        · rw [if_pos g4]; exact (first_4 _ _ _ _ _ hb1 hb2 hb3 g4 ht).symm
        · rw [if_neg g4, decodeN_bad _ _ _ _ _ g1 g2 g3 g4 hb0]; exact okD_bad.symm
end Go.Proofs.YtkkeplmaphcblaaGreatDoor

namespace Go.Proofs.YtkkeplmaphcblaaGreatDoor
open Go.RowKit

theorem mayB_nat (r : Nat) : mayB (r : Int) = decide (mayP r) := by
  unfold mayB mayP
  exact decide_eq_decide.2 (by omega)

/-- The byte at a place, 0 behind the end. -/
theorem get_in (t : ByteArray) (k : Nat) (h : k < t.size) : t.get! k = t[k]'h := by
  obtain ⟨d⟩ := t
  exact getElem!_pos d k h
theorem get_out (t : ByteArray) (k : Nat) (h : ¬ k < t.size) : t.get! k = default := by
  obtain ⟨d⟩ := t
  exact getElem!_neg d k h
theorem width_le (s : ByteArray) (p : Nat) : (Utf8.decode s p).2 ≤ 4 := by
  rw [Lib.decode_at]
  unfold Lib.decodeN
  repeat' split
  all_goals simp
/-- What the suffix of a text begins with is what the text holds at that place. -/
theorem get_suffix (s : ByteArray) (p i : Nat) : (s.extract p s.size).get! i = s.get! (p + i) := by
  by_cases h : p + i < s.size
  · have h2 : i < (s.extract p s.size).size := by rw [ByteArray.size_extract]; omega
    rw [get_in _ _ h2, get_in _ _ h, ByteArray.getElem_extract]
  · have h2 : ¬ i < (s.extract p s.size).size := by rw [ByteArray.size_extract]; omega
    rw [get_out _ _ h2, get_out _ _ h]
theorem decode_suffix (s : ByteArray) (p : Nat) (hp : p < s.size) : Utf8.decode (s.extract p s.size) 0 = Utf8.decode s p := by
  rw [Lib.decode_at, Lib.decode_at, get_suffix, get_suffix, get_suffix, get_suffix]
  simp only [Nat.add_zero, Nat.zero_add, Nat.sub_zero, ByteArray.size_extract, Nat.min_self]
theorem badAt_eq (s : ByteArray) (p : Nat) (hp : p < s.size) : badAt s p = decide (((Utf8.decode s p).1 = 65533 ∧ (Utf8.decode s p).2 = 1) ∨ ¬ mayP (Utf8.decode s p).1) := by
  have hz : ¬ (s.extract p s.size).size = 0 := by rw [ByteArray.size_extract]; omega
  unfold badAt Lib.decodeGo
  rw [if_neg hz, decode_suffix s p hp, mayB_nat]
  by_cases h1 : (Utf8.decode s p).1 = 65533 <;> by_cases h2 : (Utf8.decode s p).2 = 1 <;> by_cases h3 : mayP (Utf8.decode s p).1 <;> simp [h1, h2, h3]
/-- How the reference's first answers at a place. -/
theorem first_at (s : ByteArray) (p : Nat) (hp : p < s.size) : firstV (s.extract p s.size) = if badAt s p then (0, 0) else Utf8.decode s p := by
  rw [firstV_eq _ (by rw [ByteArray.size_extract]; omega), decode_suffix s p hp, badAt_eq s p hp]
  unfold okD
  by_cases h : ((Utf8.decode s p).1 = 65533 ∧ (Utf8.decode s p).2 = 1) ∨ ¬ mayP (Utf8.decode s p).1
  · rw [if_pos h, if_pos (decide_eq_true h)]
  · rw [if_neg h, if_neg (by simpa using h)]

end Go.Proofs.YtkkeplmaphcblaaGreatDoor
