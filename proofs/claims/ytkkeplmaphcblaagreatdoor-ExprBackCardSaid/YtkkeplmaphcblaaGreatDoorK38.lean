/- The walk of the law ExprBack. -/
import Derived.Test.YtkkeplmaphcblaaGreatDoorK28
import Derived.Test.YtkkeplmaphcblaaGreatDoorK25
import Derived.Test.YtkkeplmaphcblaaGreatDoorK35
namespace Go.Proofs.YtkkeplmaphcblaaGreatDoor
open Go.RowKit Go.Shelf

set_option maxHeartbeats 8000000 in
set_option maxRecDepth 100000 in
theorem eb_big (o k n si : Int) (q : ByteArray) (mm : Int) (r : ByteArray) (B : Option Addr) (l c : Nat) (z : Int) (hz : z < 0) (w : World)
    (HW : Hid (∀ W, Below w.heap.size w W → Calls Tryz.prog 20 #[] W fun e w' => e = .returned (.bool true) ∧ Below W.heap.size W w'))
    (KB : Hid (∀ W, Below w.heap.size w W → Calls Tryz.prog 19 #[.agg #[.int .i64 o, .int .i64 k, .int .i64 n, .int .i64 si, .string q, .int .i64 mm, .string r, .slice B l c], .int .i64 1, .int .i64 500] W fun e w' => e = .returned (.int .i64 z) ∧ Below W.heap.size W w')) :
    Calls Tryz.prog 8 #[.agg #[.int .i64 o, .int .i64 k, .int .i64 n, .int .i64 si, .string q, .int .i64 mm, .string r, .slice B l c]] w fun e w' => e = .returned (.bool true) ∧ Below w.heap.size w w' := by
  have k0 : Blk (w.alloc (.cells #[.int .i64 o, .int .i64 k, .int .i64 n, .int .i64 si, .string q, .int .i64 mm, .string r, .slice B l c] 33)) w.heap.size 33 #[.int .i64 o, .int .i64 k, .int .i64 n, .int .i64 si, .string q, .int .i64 mm, .string r, .slice B l c] := Blk.new _ _ _
  have K0 := Lib.hid k0
  go_enter Tryz.func8, Tryz.ntmps8
  have hlu := k0.lt; have hllu := lts hlu; have qu0 := k0.cell 0; have qu1 := k0.cell 1; have qu2 := k0.cell 2; have qu3 := k0.cell 3; have qu4 := k0.cell 4; have qu5 := k0.cell 5; have qu6 := k0.cell 6; have qu7 := k0.cell 7; simp at qu0 qu1 qu2 qu3 qu4 qu5 qu6 qu7; have zu0 := k0.frozen 0; have zu1 := k0.frozen 1; have zu2 := k0.frozen 2; have zu3 := k0.frozen 3; have zu4 := k0.frozen 4; have zu5 := k0.frozen 5; have zu6 := k0.frozen 6; have zu7 := k0.frozen 7; have Hk0 := Lib.hid k0; clear k0
  go_wp2_with fail
  refine (KB.out _ (by (repeat' (first | (with_reducible exact Below.refl _ _) | (with_reducible assumption) | (with_reducible refine balloc ?_ _) | (with_reducible refine Below.drew ?_) | (with_reducible refine bset ?_ ?_ _) | (with_reducible refine bstep ?_ (by with_reducible assumption)) | (with_reducible refine bturn ?_ (by with_reducible assumption) ?_) | go_size)))).mono ?_
  rintro e w1 ⟨rfl, hb1⟩
  have hb01 : Below w.heap.size w w1 := by (repeat' (first | (with_reducible exact Below.refl _ _) | (with_reducible assumption) | (with_reducible refine balloc ?_ _) | (with_reducible refine Below.drew ?_) | (with_reducible refine bset ?_ ?_ _) | (with_reducible refine bstep ?_ (by with_reducible assumption)) | (with_reducible refine bturn ?_ (by with_reducible assumption) ?_) | go_size))
  have k1 := K0.out.step hb1
  have K1 := Lib.hid k1
  clear qu0 qu1 qu2 qu3 qu4 qu5 qu6 qu7 zu0 zu1 zu2 zu3 zu4 zu5 zu6 zu7 hlu hllu Hk0 K0 hb1 KB
  clear k1
  go_wp2_with fail
  refine (HW.out _ hb01).mono ?_
  rintro _ w2 ⟨rfl, hb2⟩
  go_wp2_with fail
  go_returns
  exact ⟨rfl, bstep hb01 hb2⟩
set_option maxHeartbeats 8000000 in
set_option maxRecDepth 100000 in
theorem eb_no2 (o k n si : Int) (q : ByteArray) (mm : Int) (r : ByteArray) (B : Option Addr) (l c : Nat) (z : Int) (hz : ¬ z < 0) (S : ByteArray) (w : World)
    (HW : Hid (∀ W, Below w.heap.size w W → Calls Tryz.prog 20 #[] W fun e w' => e = .returned (.bool true) ∧ Below W.heap.size W w'))
    (KB : Hid (∀ W, Below w.heap.size w W → Calls Tryz.prog 19 #[.agg #[.int .i64 o, .int .i64 k, .int .i64 n, .int .i64 si, .string q, .int .i64 mm, .string r, .slice B l c], .int .i64 1, .int .i64 500] W fun e w' => e = .returned (.int .i64 z) ∧ Below W.heap.size W w'))
    (HT : Hid (∀ W, Below w.heap.size w W → Calls Tryz.prog 30 #[.agg #[.int .i64 o, .int .i64 k, .int .i64 n, .int .i64 si, .string q, .int .i64 mm, .string r, .slice B l c]] W fun e w' => e = .returned (.tuple #[.string S, .int .i64 2]) ∧ Below W.heap.size W w'))
    (HR : Hid (∀ W, Below w.heap.size w W → Calls Tryz.prog 22 #[.agg #[.int .i64 o, .int .i64 k, .int .i64 n, .int .i64 si, .string q, .int .i64 mm, .string r, .slice B l c]] W fun e w' => e = .returned (.bool false) ∧ Below W.heap.size W w')) :
    Calls Tryz.prog 8 #[.agg #[.int .i64 o, .int .i64 k, .int .i64 n, .int .i64 si, .string q, .int .i64 mm, .string r, .slice B l c]] w fun e w' => e = .returned (.bool true) ∧ Below w.heap.size w w' := by
  have k0 : Blk (w.alloc (.cells #[.int .i64 o, .int .i64 k, .int .i64 n, .int .i64 si, .string q, .int .i64 mm, .string r, .slice B l c] 33)) w.heap.size 33 #[.int .i64 o, .int .i64 k, .int .i64 n, .int .i64 si, .string q, .int .i64 mm, .string r, .slice B l c] := Blk.new _ _ _
  have K0 := Lib.hid k0
  go_enter Tryz.func8, Tryz.ntmps8
  have hlu := k0.lt; have hllu := lts hlu; have qu0 := k0.cell 0; have qu1 := k0.cell 1; have qu2 := k0.cell 2; have qu3 := k0.cell 3; have qu4 := k0.cell 4; have qu5 := k0.cell 5; have qu6 := k0.cell 6; have qu7 := k0.cell 7; simp at qu0 qu1 qu2 qu3 qu4 qu5 qu6 qu7; have zu0 := k0.frozen 0; have zu1 := k0.frozen 1; have zu2 := k0.frozen 2; have zu3 := k0.frozen 3; have zu4 := k0.frozen 4; have zu5 := k0.frozen 5; have zu6 := k0.frozen 6; have zu7 := k0.frozen 7; have Hk0 := Lib.hid k0; clear k0
  go_wp2_with fail
  refine (KB.out _ (by (repeat' (first | (with_reducible exact Below.refl _ _) | (with_reducible assumption) | (with_reducible refine balloc ?_ _) | (with_reducible refine Below.drew ?_) | (with_reducible refine bset ?_ ?_ _) | (with_reducible refine bstep ?_ (by with_reducible assumption)) | (with_reducible refine bturn ?_ (by with_reducible assumption) ?_) | go_size)))).mono ?_
  rintro e w1 ⟨rfl, hb1⟩
  have hb01 : Below w.heap.size w w1 := by (repeat' (first | (with_reducible exact Below.refl _ _) | (with_reducible assumption) | (with_reducible refine balloc ?_ _) | (with_reducible refine Below.drew ?_) | (with_reducible refine bset ?_ ?_ _) | (with_reducible refine bstep ?_ (by with_reducible assumption)) | (with_reducible refine bturn ?_ (by with_reducible assumption) ?_) | go_size))
  have k1 := K0.out.step hb1
  have K1 := Lib.hid k1
  clear qu0 qu1 qu2 qu3 qu4 qu5 qu6 qu7 zu0 zu1 zu2 zu3 zu4 zu5 zu6 zu7 hlu hllu Hk0 K0 hb1 KB
  have hlu := k1.lt; have hllu := lts hlu; have qu0 := k1.cell 0; have qu1 := k1.cell 1; have qu2 := k1.cell 2; have qu3 := k1.cell 3; have qu4 := k1.cell 4; have qu5 := k1.cell 5; have qu6 := k1.cell 6; have qu7 := k1.cell 7; simp at qu0 qu1 qu2 qu3 qu4 qu5 qu6 qu7; have zu0 := k1.frozen 0; have zu1 := k1.frozen 1; have zu2 := k1.frozen 2; have zu3 := k1.frozen 3; have zu4 := k1.frozen 4; have zu5 := k1.frozen 5; have zu6 := k1.frozen 6; have zu7 := k1.frozen 7; have Hk1 := Lib.hid k1; clear k1
  go_wp2_with fail
  refine (HT.out _ hb01).mono ?_
  rintro _ w2 ⟨rfl, hb2⟩
  have K2 := Lib.hid (K1.out.step hb2)
  have hb02 := bstep hb01 hb2
  clear qu0 qu1 qu2 qu3 qu4 qu5 qu6 qu7 zu0 zu1 zu2 zu3 zu4 zu5 zu6 zu7 hlu hllu Hk1 K1 hb2 HT hb01
  go_wp2_with fail
  refine (HW.out _ hb02).mono ?_
  rintro _ w3 ⟨rfl, hb3⟩
  have k3 := K2.out.step hb3
  have K3 := Lib.hid k3
  have hb03 := bstep hb02 hb3
  clear K2 hb3 hb02
  clear k3
  go_wp2_with fail
  refine (HW.out _ hb03).mono ?_
  rintro _ w4 ⟨rfl, hb4⟩
  have k4 := K3.out.step hb4
  have hb04 := bstep hb03 hb4
  clear K3 hb4 hb03 HW
  have hlu := k4.lt; have hllu := lts hlu; have qu0 := k4.cell 0; have qu1 := k4.cell 1; have qu2 := k4.cell 2; have qu3 := k4.cell 3; have qu4 := k4.cell 4; have qu5 := k4.cell 5; have qu6 := k4.cell 6; have qu7 := k4.cell 7; simp at qu0 qu1 qu2 qu3 qu4 qu5 qu6 qu7; have zu0 := k4.frozen 0; have zu1 := k4.frozen 1; have zu2 := k4.frozen 2; have zu3 := k4.frozen 3; have zu4 := k4.frozen 4; have zu5 := k4.frozen 5; have zu6 := k4.frozen 6; have zu7 := k4.frozen 7; have Hk4 := Lib.hid k4; clear k4
  go_wp2_with fail
  refine (HR.out _ hb04).mono ?_
  rintro _ w5 ⟨rfl, hb5⟩
  clear qu0 qu1 qu2 qu3 qu4 qu5 qu6 qu7 zu0 zu1 zu2 zu3 zu4 zu5 zu6 zu7 hlu hllu Hk4
  go_wp2_with fail
  go_returns
  exact ⟨by first | rfl | simp, bstep hb04 hb5⟩
set_option maxHeartbeats 8000000 in
set_option maxRecDepth 100000 in
theorem eb_no10 (o k n si : Int) (q : ByteArray) (mm : Int) (r : ByteArray) (B : Option Addr) (l c : Nat) (z : Int) (hz : ¬ z < 0) (S : ByteArray) (w : World)
    (HW : Hid (∀ W, Below w.heap.size w W → Calls Tryz.prog 20 #[] W fun e w' => e = .returned (.bool true) ∧ Below W.heap.size W w'))
    (KB : Hid (∀ W, Below w.heap.size w W → Calls Tryz.prog 19 #[.agg #[.int .i64 o, .int .i64 k, .int .i64 n, .int .i64 si, .string q, .int .i64 mm, .string r, .slice B l c], .int .i64 1, .int .i64 500] W fun e w' => e = .returned (.int .i64 z) ∧ Below W.heap.size W w'))
    (HT : Hid (∀ W, Below w.heap.size w W → Calls Tryz.prog 30 #[.agg #[.int .i64 o, .int .i64 k, .int .i64 n, .int .i64 si, .string q, .int .i64 mm, .string r, .slice B l c]] W fun e w' => e = .returned (.tuple #[.string S, .int .i64 10]) ∧ Below W.heap.size W w'))
    (HR : Hid (∀ W, Below w.heap.size w W → Calls Tryz.prog 22 #[.agg #[.int .i64 o, .int .i64 k, .int .i64 n, .int .i64 si, .string q, .int .i64 mm, .string r, .slice B l c]] W fun e w' => e = .returned (.bool true) ∧ Below W.heap.size W w')) :
    Calls Tryz.prog 8 #[.agg #[.int .i64 o, .int .i64 k, .int .i64 n, .int .i64 si, .string q, .int .i64 mm, .string r, .slice B l c]] w fun e w' => e = .returned (.bool true) ∧ Below w.heap.size w w' := by
  have k0 : Blk (w.alloc (.cells #[.int .i64 o, .int .i64 k, .int .i64 n, .int .i64 si, .string q, .int .i64 mm, .string r, .slice B l c] 33)) w.heap.size 33 #[.int .i64 o, .int .i64 k, .int .i64 n, .int .i64 si, .string q, .int .i64 mm, .string r, .slice B l c] := Blk.new _ _ _
  have K0 := Lib.hid k0
  go_enter Tryz.func8, Tryz.ntmps8
  have hlu := k0.lt; have hllu := lts hlu; have qu0 := k0.cell 0; have qu1 := k0.cell 1; have qu2 := k0.cell 2; have qu3 := k0.cell 3; have qu4 := k0.cell 4; have qu5 := k0.cell 5; have qu6 := k0.cell 6; have qu7 := k0.cell 7; simp at qu0 qu1 qu2 qu3 qu4 qu5 qu6 qu7; have zu0 := k0.frozen 0; have zu1 := k0.frozen 1; have zu2 := k0.frozen 2; have zu3 := k0.frozen 3; have zu4 := k0.frozen 4; have zu5 := k0.frozen 5; have zu6 := k0.frozen 6; have zu7 := k0.frozen 7; have Hk0 := Lib.hid k0; clear k0
  go_wp2_with fail
  refine (KB.out _ (by (repeat' (first | (with_reducible exact Below.refl _ _) | (with_reducible assumption) | (with_reducible refine balloc ?_ _) | (with_reducible refine Below.drew ?_) | (with_reducible refine bset ?_ ?_ _) | (with_reducible refine bstep ?_ (by with_reducible assumption)) | (with_reducible refine bturn ?_ (by with_reducible assumption) ?_) | go_size)))).mono ?_
  rintro e w1 ⟨rfl, hb1⟩
  have hb01 : Below w.heap.size w w1 := by (repeat' (first | (with_reducible exact Below.refl _ _) | (with_reducible assumption) | (with_reducible refine balloc ?_ _) | (with_reducible refine Below.drew ?_) | (with_reducible refine bset ?_ ?_ _) | (with_reducible refine bstep ?_ (by with_reducible assumption)) | (with_reducible refine bturn ?_ (by with_reducible assumption) ?_) | go_size))
  have k1 := K0.out.step hb1
  have K1 := Lib.hid k1
  clear qu0 qu1 qu2 qu3 qu4 qu5 qu6 qu7 zu0 zu1 zu2 zu3 zu4 zu5 zu6 zu7 hlu hllu Hk0 K0 hb1 KB
  have hlu := k1.lt; have hllu := lts hlu; have qu0 := k1.cell 0; have qu1 := k1.cell 1; have qu2 := k1.cell 2; have qu3 := k1.cell 3; have qu4 := k1.cell 4; have qu5 := k1.cell 5; have qu6 := k1.cell 6; have qu7 := k1.cell 7; simp at qu0 qu1 qu2 qu3 qu4 qu5 qu6 qu7; have zu0 := k1.frozen 0; have zu1 := k1.frozen 1; have zu2 := k1.frozen 2; have zu3 := k1.frozen 3; have zu4 := k1.frozen 4; have zu5 := k1.frozen 5; have zu6 := k1.frozen 6; have zu7 := k1.frozen 7; have Hk1 := Lib.hid k1; clear k1
  go_wp2_with fail
  refine (HT.out _ hb01).mono ?_
  rintro _ w2 ⟨rfl, hb2⟩
  have K2 := Lib.hid (K1.out.step hb2)
  have hb02 := bstep hb01 hb2
  clear qu0 qu1 qu2 qu3 qu4 qu5 qu6 qu7 zu0 zu1 zu2 zu3 zu4 zu5 zu6 zu7 hlu hllu Hk1 K1 hb2 HT hb01
  go_wp2_with fail
  refine (HW.out _ hb02).mono ?_
  rintro _ w3 ⟨rfl, hb3⟩
  have k3 := K2.out.step hb3
  have K3 := Lib.hid k3
  have hb03 := bstep hb02 hb3
  clear K2 hb3 hb02
  clear k3
  go_wp2_with fail
  refine (HW.out _ hb03).mono ?_
  rintro _ w4 ⟨rfl, hb4⟩
  have k4 := K3.out.step hb4
  have hb04 := bstep hb03 hb4
  clear K3 hb4 hb03 HW
  have hlu := k4.lt; have hllu := lts hlu; have qu0 := k4.cell 0; have qu1 := k4.cell 1; have qu2 := k4.cell 2; have qu3 := k4.cell 3; have qu4 := k4.cell 4; have qu5 := k4.cell 5; have qu6 := k4.cell 6; have qu7 := k4.cell 7; simp at qu0 qu1 qu2 qu3 qu4 qu5 qu6 qu7; have zu0 := k4.frozen 0; have zu1 := k4.frozen 1; have zu2 := k4.frozen 2; have zu3 := k4.frozen 3; have zu4 := k4.frozen 4; have zu5 := k4.frozen 5; have zu6 := k4.frozen 6; have zu7 := k4.frozen 7; have Hk4 := Lib.hid k4; clear k4
  go_wp2_with fail
  refine (HR.out _ hb04).mono ?_
  rintro _ w5 ⟨rfl, hb5⟩
  clear qu0 qu1 qu2 qu3 qu4 qu5 qu6 qu7 zu0 zu1 zu2 zu3 zu4 zu5 zu6 zu7 hlu hllu Hk4
  go_wp2_with fail
  go_returns
  exact ⟨by first | rfl | simp, bstep hb04 hb5⟩
set_option maxHeartbeats 8000000 in
set_option maxRecDepth 100000 in
theorem eb_yes (o k n si : Int) (q : ByteArray) (mm : Int) (r : ByteArray) (B : Option Addr) (l c : Nat) (z : Int) (hz : ¬ z < 0) (S : ByteArray) (E : Ex) (a2 : Int) (w : World)
    (HW : Hid (∀ W, Below w.heap.size w W → Calls Tryz.prog 20 #[] W fun e w' => e = .returned (.bool true) ∧ Below W.heap.size W w'))
    (KB : Hid (∀ W, Below w.heap.size w W → Calls Tryz.prog 19 #[.agg #[.int .i64 o, .int .i64 k, .int .i64 n, .int .i64 si, .string q, .int .i64 mm, .string r, .slice B l c], .int .i64 1, .int .i64 500] W fun e w' => e = .returned (.int .i64 z) ∧ Below W.heap.size W w'))
    (HT : Hid (∀ W, Below w.heap.size w W → Calls Tryz.prog 30 #[.agg #[.int .i64 o, .int .i64 k, .int .i64 n, .int .i64 si, .string q, .int .i64 mm, .string r, .slice B l c]] W fun e w' => e = .returned (.tuple #[.string S, .int .i64 0]) ∧ Below W.heap.size W w'))
    (HQ : Hid (∀ W, Below w.heap.size w W → Calls Tryz.prog 16 #[.string S] W fun x w' => (∃ cs, x = .returned (.tuple #[.agg cs, .int .i64 a2, .int .i64 0]) ∧ XM (fun g => W.heap.size ≤ g) w' E cs) ∧ Below W.heap.size W w'))
    (HR : Hid (∀ ds W, Below w.heap.size w W → XM (fun _ => True) W E ds → Calls Tryz.prog 31 #[.agg #[.int .i64 o, .int .i64 k, .int .i64 n, .int .i64 si, .string q, .int .i64 mm, .string r, .slice B l c], .agg ds] W fun e w' => e = .returned (.bool true) ∧ Below W.heap.size W w')) :
    Calls Tryz.prog 8 #[.agg #[.int .i64 o, .int .i64 k, .int .i64 n, .int .i64 si, .string q, .int .i64 mm, .string r, .slice B l c]] w fun e w' => e = .returned (.bool true) ∧ Below w.heap.size w w' := by
  have k0 : Blk (w.alloc (.cells #[.int .i64 o, .int .i64 k, .int .i64 n, .int .i64 si, .string q, .int .i64 mm, .string r, .slice B l c] 33)) w.heap.size 33 #[.int .i64 o, .int .i64 k, .int .i64 n, .int .i64 si, .string q, .int .i64 mm, .string r, .slice B l c] := Blk.new _ _ _
  have K0 := Lib.hid k0
  go_enter Tryz.func8, Tryz.ntmps8
  have hlu := k0.lt; have hllu := lts hlu; have qu0 := k0.cell 0; have qu1 := k0.cell 1; have qu2 := k0.cell 2; have qu3 := k0.cell 3; have qu4 := k0.cell 4; have qu5 := k0.cell 5; have qu6 := k0.cell 6; have qu7 := k0.cell 7; simp at qu0 qu1 qu2 qu3 qu4 qu5 qu6 qu7; have zu0 := k0.frozen 0; have zu1 := k0.frozen 1; have zu2 := k0.frozen 2; have zu3 := k0.frozen 3; have zu4 := k0.frozen 4; have zu5 := k0.frozen 5; have zu6 := k0.frozen 6; have zu7 := k0.frozen 7; have Hk0 := Lib.hid k0; clear k0
  go_wp2_with fail
  refine (KB.out _ (by (repeat' (first | (with_reducible exact Below.refl _ _) | (with_reducible assumption) | (with_reducible refine balloc ?_ _) | (with_reducible refine Below.drew ?_) | (with_reducible refine bset ?_ ?_ _) | (with_reducible refine bstep ?_ (by with_reducible assumption)) | (with_reducible refine bturn ?_ (by with_reducible assumption) ?_) | go_size)))).mono ?_
  rintro e w1 ⟨rfl, hb1⟩
  have hb01 : Below w.heap.size w w1 := by (repeat' (first | (with_reducible exact Below.refl _ _) | (with_reducible assumption) | (with_reducible refine balloc ?_ _) | (with_reducible refine Below.drew ?_) | (with_reducible refine bset ?_ ?_ _) | (with_reducible refine bstep ?_ (by with_reducible assumption)) | (with_reducible refine bturn ?_ (by with_reducible assumption) ?_) | go_size))
  have k1 := K0.out.step hb1
  have K1 := Lib.hid k1
  clear qu0 qu1 qu2 qu3 qu4 qu5 qu6 qu7 zu0 zu1 zu2 zu3 zu4 zu5 zu6 zu7 hlu hllu Hk0 K0 hb1 KB
  have hlu := k1.lt; have hllu := lts hlu; have qu0 := k1.cell 0; have qu1 := k1.cell 1; have qu2 := k1.cell 2; have qu3 := k1.cell 3; have qu4 := k1.cell 4; have qu5 := k1.cell 5; have qu6 := k1.cell 6; have qu7 := k1.cell 7; simp at qu0 qu1 qu2 qu3 qu4 qu5 qu6 qu7; have zu0 := k1.frozen 0; have zu1 := k1.frozen 1; have zu2 := k1.frozen 2; have zu3 := k1.frozen 3; have zu4 := k1.frozen 4; have zu5 := k1.frozen 5; have zu6 := k1.frozen 6; have zu7 := k1.frozen 7; have Hk1 := Lib.hid k1; clear k1
  go_wp2_with fail
  refine (HT.out _ hb01).mono ?_
  rintro _ w2 ⟨rfl, hb2⟩
  have K2 := Lib.hid (K1.out.step hb2)
  have hb02 := bstep hb01 hb2
  clear qu0 qu1 qu2 qu3 qu4 qu5 qu6 qu7 zu0 zu1 zu2 zu3 zu4 zu5 zu6 zu7 hlu hllu Hk1 K1 hb2 HT hb01
  go_wp2_with fail
  refine (HW.out _ hb02).mono ?_
  rintro _ w3 ⟨rfl, hb3⟩
  have k3 := K2.out.step hb3
  have K3 := Lib.hid k3
  have hb03 := bstep hb02 hb3
  clear K2 hb3 hb02
  clear k3
  go_wp2_with fail
  refine (HQ.out _ hb03).mono ?_
  rintro x w6 ⟨⟨ds, rfl, hy⟩, hb6⟩
  have Y6 := Lib.hid (hy.mono (T := fun _ => True) fun _ _ _ => trivial)
  obtain ⟨o2, k2, n2, si2, q2, mm2, r2, B2, l2, c2, rfl⟩ := hy.cells
  have kB : Blk (w6.alloc (.cells #[.int .i64 0, .int .i64 0, .int .i64 0, .int .i64 0, .string ⟨#[]⟩, .int .i64 0, .string ⟨#[]⟩, .slice none 0 0] 33)) w6.heap.size 33 #[.int .i64 0, .int .i64 0, .int .i64 0, .int .i64 0, .string ⟨#[]⟩, .int .i64 0, .string ⟨#[]⟩, .slice none 0 0] := Blk.new _ _ _
  have hb06 := bstep hb03 hb6
  have k6 := Lib.hid (K3.out.step hb6)
  clear hy HQ hb6 hb03 K3 HW
  go_upto_region 7 with (refine wpList_store_blk kB rfl _ _ _ (by rfl) _ (by rfl) (by rfl) (by (repeat (first | (with_reducible exact kB) | (with_reducible refine Blk.alloc ?_ _) | (with_reducible refine Blk.drew ?_) | (with_reducible refine Blk.far ?_ (by first | (simp; done) | (simp; omega)) _) | (with_reducible refine Blk.turn ?_ (by with_reducible assumption) (by omega))))) (by rfl) (by kernel_rfl) (by simp [Value.oneCell']) ?_; intro wt kBn ht)
  have hb7 : Below w6.heap.size w6 wt := bturn (balloc (Below.refl _ _) _) ht (Nat.le_refl _)
  have hb07 : Below w.heap.size w wt := bstep hb06 hb7
  have Y7 := Lib.hid (Y6.out.step hb7)
  have k7 := k6.out.step hb7
  have k7n := kBn
  clear kB ht hb7 Y6 k6 hb06 kBn
  have hlu := k7.lt; have hllu := lts hlu; have qu0 := k7.cell 0; have qu1 := k7.cell 1; have qu2 := k7.cell 2; have qu3 := k7.cell 3; have qu4 := k7.cell 4; have qu5 := k7.cell 5; have qu6 := k7.cell 6; have qu7 := k7.cell 7; simp at qu0 qu1 qu2 qu3 qu4 qu5 qu6 qu7; have zu0 := k7.frozen 0; have zu1 := k7.frozen 1; have zu2 := k7.frozen 2; have zu3 := k7.frozen 3; have zu4 := k7.frozen 4; have zu5 := k7.frozen 5; have zu6 := k7.frozen 6; have zu7 := k7.frozen 7; have Hk7 := Lib.hid k7; clear k7
  have hlv := k7n.lt; have hllv := lts hlv; have qv0 := k7n.cell 0; have qv1 := k7n.cell 1; have qv2 := k7n.cell 2; have qv3 := k7n.cell 3; have qv4 := k7n.cell 4; have qv5 := k7n.cell 5; have qv6 := k7n.cell 6; have qv7 := k7n.cell 7; simp at qv0 qv1 qv2 qv3 qv4 qv5 qv6 qv7; have zv0 := k7n.frozen 0; have zv1 := k7n.frozen 1; have zv2 := k7n.frozen 2; have zv3 := k7n.frozen 3; have zv4 := k7n.frozen 4; have zv5 := k7n.frozen 5; have zv6 := k7n.frozen 6; have zv7 := k7n.frozen 7; have Hk7n := Lib.hid k7n; clear k7n
  go_wp2_with (first | (refine wpList_load_blk k7 rfl _ _ (by rfl) (by rfl) (by (repeat (first | (with_reducible exact k7) | (with_reducible refine Blk.alloc ?_ _) | (with_reducible refine Blk.drew ?_) | (with_reducible refine Blk.far ?_ (by first | (simp; done) | (simp; omega)) _) | (with_reducible refine Blk.turn ?_ (by with_reducible assumption) (by omega))))) _ Tryz.underlying33 rfl (by kernel_rfl) ?_) | (refine wpList_load_blk k7n rfl _ _ (by rfl) (by rfl) (by (repeat (first | (with_reducible exact k7n) | (with_reducible refine Blk.alloc ?_ _) | (with_reducible refine Blk.drew ?_) | (with_reducible refine Blk.far ?_ (by first | (simp; done) | (simp; omega)) _) | (with_reducible refine Blk.turn ?_ (by with_reducible assumption) (by omega))))) _ Tryz.underlying33 rfl (by kernel_rfl) ?_))
  refine (HR.out _ _ hb07 Y7.out).mono ?_
  rintro _ w8 ⟨rfl, hb8⟩
  go_wp2_with fail
  go_returns
  exact ⟨by first | rfl | simp, bstep hb07 hb8⟩
theorem eback_any (hTA : Hid ETextAny) (x : Ex) (cs : Array Value) (m : Int) (w : World) (hw : OKW m w) (hx : XM (fun _ => True) w x cs) (hv : EV x) :
    Calls Tryz.prog 8 #[.agg cs] w fun e w' => e = .returned (.bool true) ∧ Below w.heap.size w w' := by
  have HW := Lib.hid fun W (h : Below w.heap.size w W) => awake_ex hTA m W (hw.step h)
  have KB := Lib.hid fun W (h : Below w.heap.size w W) => big8_all w x cs 1 500 W hx h (by decide) (by decide) (by decide)
  have KT := fun W (h : Below w.heap.size w W) => hTA.out x cs m W (hw.step h) (hx.step h) hv
  have KR := fun W (h : Below w.heap.size w W) => rsoundx_any x cs W (hx.step h) hv
  have KS := fun ds W (h : Below w.heap.size w W) (hy : XM (fun _ => True) W x ds) => rsame_all W x x cs ds W (hx.step h) hy (Below.refl _ _)
  rw [(eqE_iff x x).2 rfl] at KS
  obtain ⟨o, k, n, si, q, mm, r, B, l, c, hcs⟩ := hx.cells
  subst hcs
  by_cases hz : bigS x 1 500 < 0
  · exact eb_big o k n si q mm r B l c _ hz w HW KB
  · cases hs : soundX x with
    | false =>
      have ht : textX x = ([], 2) := by unfold textX; rw [hs]; rfl
      rw [ht] at KT
      rw [hs] at KR
      exact eb_no2 o k n si q mm r B l c _ hz _ w HW KB (Lib.hid KT) (Lib.hid KR)
    | true =>
      rw [hs] at KR
      by_cases hl : 65536 < (etxt x).length
      · have ht : textX x = ([], 10) := by unfold textX; rw [if_pos hs, if_pos hl]
        rw [ht] at KT
        exact eb_no10 o k n si q mm r B l c _ hz _ w HW KB (Lib.hid KT) (Lib.hid KR)
      · have ht : textX x = (etxt x, 0) := by unfold textX; rw [if_pos hs, if_neg hl]
        rw [ht] at KT
        obtain ⟨s1, s2, s3⟩ := (soundX_iff x).1 hs
        refine eb_yes o k n si q mm r B l c _ hz _ x 0 w HW KB (Lib.hid KT) (Lib.hid fun W h => ?_) (Lib.hid KS)
        have kk := eparse_any m (bs (etxt x)) W (hw.step h) 600000 (Nat.le_refl _)
        rw [show (bs (etxt x)).data.toList = etxt x from rfl, expr_back m W (hw.step h) s1 s2 s3 (by omega) soundX hs 600000 (by omega)] at kk
        exact kk
end Go.Proofs.YtkkeplmaphcblaaGreatDoor
