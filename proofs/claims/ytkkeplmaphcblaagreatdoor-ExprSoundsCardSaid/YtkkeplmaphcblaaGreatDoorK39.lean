/- The walk of the law ExprSounds. -/
import Derived.Test.YtkkeplmaphcblaaGreatDoorK28
import Derived.Test.YtkkeplmaphcblaaGreatDoorK25
import Derived.Test.YtkkeplmaphcblaaGreatDoorK35
namespace Go.Proofs.YtkkeplmaphcblaaGreatDoor
open Go.RowKit Go.Shelf

set_option maxHeartbeats 8000000 in
set_option maxRecDepth 100000 in
theorem es_big1 (ox kx nx sx : Int) (qx : ByteArray) (mx : Int) (rx : ByteArray) (Bx : Option Addr) (lx cx : Nat) (oy ky ny sy : Int) (qy : ByteArray) (my : Int) (ry : ByteArray) (By : Option Addr) (ly cy : Nat) (z1 _z2 : Int) (h1 : z1 < 0) (w : World)
    (HW : Hid (∀ W, Below w.heap.size w W → Calls Tryz.prog 20 #[] W fun e w' => e = .returned (.bool true) ∧ Below W.heap.size W w'))
    (KB1 : Hid (∀ W, Below w.heap.size w W → Calls Tryz.prog 19 #[.agg #[.int .i64 ox, .int .i64 kx, .int .i64 nx, .int .i64 sx, .string qx, .int .i64 mx, .string rx, .slice Bx lx cx], .int .i64 1, .int .i64 500] W fun e w' => e = .returned (.int .i64 z1) ∧ Below W.heap.size W w')) :
    Calls Tryz.prog 11 #[.agg #[.int .i64 ox, .int .i64 kx, .int .i64 nx, .int .i64 sx, .string qx, .int .i64 mx, .string rx, .slice Bx lx cx], .agg #[.int .i64 oy, .int .i64 ky, .int .i64 ny, .int .i64 sy, .string qy, .int .i64 my, .string ry, .slice By ly cy]] w fun e w' => e = .returned (.bool true) ∧ Below w.heap.size w w' := by
  have j0 : Blk ((w.alloc (.cells #[.int .i64 ox, .int .i64 kx, .int .i64 nx, .int .i64 sx, .string qx, .int .i64 mx, .string rx, .slice Bx lx cx] 33)).alloc (.cells #[.int .i64 oy, .int .i64 ky, .int .i64 ny, .int .i64 sy, .string qy, .int .i64 my, .string ry, .slice By ly cy] 33)) w.heap.size 33 #[.int .i64 ox, .int .i64 kx, .int .i64 nx, .int .i64 sx, .string qx, .int .i64 mx, .string rx, .slice Bx lx cx] := (Blk.new _ _ _).alloc _
  have i0 : Blk ((w.alloc (.cells #[.int .i64 ox, .int .i64 kx, .int .i64 nx, .int .i64 sx, .string qx, .int .i64 mx, .string rx, .slice Bx lx cx] 33)).alloc (.cells #[.int .i64 oy, .int .i64 ky, .int .i64 ny, .int .i64 sy, .string qy, .int .i64 my, .string ry, .slice By ly cy] 33)) (w.heap.size + 1) 33 #[.int .i64 oy, .int .i64 ky, .int .i64 ny, .int .i64 sy, .string qy, .int .i64 my, .string ry, .slice By ly cy] := Blk.new' _ _ _ (by simp)
  have J0 := Lib.hid j0
  have I0 := Lib.hid i0
  go_enter Tryz.func11, Tryz.ntmps11
  have hlu := j0.lt; have hllu := lts hlu; have qu0 := j0.cell 0; have qu1 := j0.cell 1; have qu2 := j0.cell 2; have qu3 := j0.cell 3; have qu4 := j0.cell 4; have qu5 := j0.cell 5; have qu6 := j0.cell 6; have qu7 := j0.cell 7; simp at qu0 qu1 qu2 qu3 qu4 qu5 qu6 qu7; have zu0 := j0.frozen 0; have zu1 := j0.frozen 1; have zu2 := j0.frozen 2; have zu3 := j0.frozen 3; have zu4 := j0.frozen 4; have zu5 := j0.frozen 5; have zu6 := j0.frozen 6; have zu7 := j0.frozen 7; have Hj0 := Lib.hid j0; clear j0
  have hlv := i0.lt; have hllv := lts hlv; have qv0 := i0.cell 0; have qv1 := i0.cell 1; have qv2 := i0.cell 2; have qv3 := i0.cell 3; have qv4 := i0.cell 4; have qv5 := i0.cell 5; have qv6 := i0.cell 6; have qv7 := i0.cell 7; simp at qv0 qv1 qv2 qv3 qv4 qv5 qv6 qv7; have zv0 := i0.frozen 0; have zv1 := i0.frozen 1; have zv2 := i0.frozen 2; have zv3 := i0.frozen 3; have zv4 := i0.frozen 4; have zv5 := i0.frozen 5; have zv6 := i0.frozen 6; have zv7 := i0.frozen 7; have Hi0 := Lib.hid i0; clear i0
  go_wp2_with fail
  refine (KB1.out _ (by (repeat' (first | (with_reducible exact Below.refl _ _) | (with_reducible assumption) | (with_reducible refine balloc ?_ _) | (with_reducible refine Below.drew ?_) | (with_reducible refine bset ?_ ?_ _) | (with_reducible refine bstep ?_ (by with_reducible assumption)) | (with_reducible refine bturn ?_ (by with_reducible assumption) ?_) | go_size)))).mono ?_
  rintro e w1 ⟨rfl, hb1⟩
  have hb01 : Below w.heap.size w w1 := by (repeat' (first | (with_reducible exact Below.refl _ _) | (with_reducible assumption) | (with_reducible refine balloc ?_ _) | (with_reducible refine Below.drew ?_) | (with_reducible refine bset ?_ ?_ _) | (with_reducible refine bstep ?_ (by with_reducible assumption)) | (with_reducible refine bturn ?_ (by with_reducible assumption) ?_) | go_size))
  have j1 := J0.out.step hb1
  have i1 := I0.out.step hb1
  have J1 := Lib.hid j1
  have I1 := Lib.hid i1
  clear qu0 qu1 qu2 qu3 qu4 qu5 qu6 qu7 zu0 zu1 zu2 zu3 zu4 zu5 zu6 zu7 hlu hllu qv0 qv1 qv2 qv3 qv4 qv5 qv6 qv7 zv0 zv1 zv2 zv3 zv4 zv5 zv6 zv7 hlv hllv Hj0 Hi0 J0 I0 hb1 KB1
  clear j1 i1
  go_wp2_with fail
  refine (HW.out _ hb01).mono ?_
  rintro _ w9 ⟨rfl, hb9⟩
  go_wp2_with fail
  go_returns
  exact ⟨rfl, bstep hb01 hb9⟩
set_option maxHeartbeats 8000000 in
set_option maxRecDepth 100000 in
theorem es_big2 (ox kx nx sx : Int) (qx : ByteArray) (mx : Int) (rx : ByteArray) (Bx : Option Addr) (lx cx : Nat) (oy ky ny sy : Int) (qy : ByteArray) (my : Int) (ry : ByteArray) (By : Option Addr) (ly cy : Nat) (z1 z2 : Int) (h1 : ¬ z1 < 0) (h2 : z2 < 0) (w : World)
    (HW : Hid (∀ W, Below w.heap.size w W → Calls Tryz.prog 20 #[] W fun e w' => e = .returned (.bool true) ∧ Below W.heap.size W w'))
    (KB1 : Hid (∀ W, Below w.heap.size w W → Calls Tryz.prog 19 #[.agg #[.int .i64 ox, .int .i64 kx, .int .i64 nx, .int .i64 sx, .string qx, .int .i64 mx, .string rx, .slice Bx lx cx], .int .i64 1, .int .i64 500] W fun e w' => e = .returned (.int .i64 z1) ∧ Below W.heap.size W w'))
    (KB2 : Hid (∀ W, Below w.heap.size w W → Calls Tryz.prog 19 #[.agg #[.int .i64 oy, .int .i64 ky, .int .i64 ny, .int .i64 sy, .string qy, .int .i64 my, .string ry, .slice By ly cy], .int .i64 1, .int .i64 500] W fun e w' => e = .returned (.int .i64 z2) ∧ Below W.heap.size W w')) :
    Calls Tryz.prog 11 #[.agg #[.int .i64 ox, .int .i64 kx, .int .i64 nx, .int .i64 sx, .string qx, .int .i64 mx, .string rx, .slice Bx lx cx], .agg #[.int .i64 oy, .int .i64 ky, .int .i64 ny, .int .i64 sy, .string qy, .int .i64 my, .string ry, .slice By ly cy]] w fun e w' => e = .returned (.bool true) ∧ Below w.heap.size w w' := by
  have j0 : Blk ((w.alloc (.cells #[.int .i64 ox, .int .i64 kx, .int .i64 nx, .int .i64 sx, .string qx, .int .i64 mx, .string rx, .slice Bx lx cx] 33)).alloc (.cells #[.int .i64 oy, .int .i64 ky, .int .i64 ny, .int .i64 sy, .string qy, .int .i64 my, .string ry, .slice By ly cy] 33)) w.heap.size 33 #[.int .i64 ox, .int .i64 kx, .int .i64 nx, .int .i64 sx, .string qx, .int .i64 mx, .string rx, .slice Bx lx cx] := (Blk.new _ _ _).alloc _
  have i0 : Blk ((w.alloc (.cells #[.int .i64 ox, .int .i64 kx, .int .i64 nx, .int .i64 sx, .string qx, .int .i64 mx, .string rx, .slice Bx lx cx] 33)).alloc (.cells #[.int .i64 oy, .int .i64 ky, .int .i64 ny, .int .i64 sy, .string qy, .int .i64 my, .string ry, .slice By ly cy] 33)) (w.heap.size + 1) 33 #[.int .i64 oy, .int .i64 ky, .int .i64 ny, .int .i64 sy, .string qy, .int .i64 my, .string ry, .slice By ly cy] := Blk.new' _ _ _ (by simp)
  have J0 := Lib.hid j0
  have I0 := Lib.hid i0
  go_enter Tryz.func11, Tryz.ntmps11
  have hlu := j0.lt; have hllu := lts hlu; have qu0 := j0.cell 0; have qu1 := j0.cell 1; have qu2 := j0.cell 2; have qu3 := j0.cell 3; have qu4 := j0.cell 4; have qu5 := j0.cell 5; have qu6 := j0.cell 6; have qu7 := j0.cell 7; simp at qu0 qu1 qu2 qu3 qu4 qu5 qu6 qu7; have zu0 := j0.frozen 0; have zu1 := j0.frozen 1; have zu2 := j0.frozen 2; have zu3 := j0.frozen 3; have zu4 := j0.frozen 4; have zu5 := j0.frozen 5; have zu6 := j0.frozen 6; have zu7 := j0.frozen 7; have Hj0 := Lib.hid j0; clear j0
  have hlv := i0.lt; have hllv := lts hlv; have qv0 := i0.cell 0; have qv1 := i0.cell 1; have qv2 := i0.cell 2; have qv3 := i0.cell 3; have qv4 := i0.cell 4; have qv5 := i0.cell 5; have qv6 := i0.cell 6; have qv7 := i0.cell 7; simp at qv0 qv1 qv2 qv3 qv4 qv5 qv6 qv7; have zv0 := i0.frozen 0; have zv1 := i0.frozen 1; have zv2 := i0.frozen 2; have zv3 := i0.frozen 3; have zv4 := i0.frozen 4; have zv5 := i0.frozen 5; have zv6 := i0.frozen 6; have zv7 := i0.frozen 7; have Hi0 := Lib.hid i0; clear i0
  go_wp2_with fail
  refine (KB1.out _ (by (repeat' (first | (with_reducible exact Below.refl _ _) | (with_reducible assumption) | (with_reducible refine balloc ?_ _) | (with_reducible refine Below.drew ?_) | (with_reducible refine bset ?_ ?_ _) | (with_reducible refine bstep ?_ (by with_reducible assumption)) | (with_reducible refine bturn ?_ (by with_reducible assumption) ?_) | go_size)))).mono ?_
  rintro e w1 ⟨rfl, hb1⟩
  have hb01 : Below w.heap.size w w1 := by (repeat' (first | (with_reducible exact Below.refl _ _) | (with_reducible assumption) | (with_reducible refine balloc ?_ _) | (with_reducible refine Below.drew ?_) | (with_reducible refine bset ?_ ?_ _) | (with_reducible refine bstep ?_ (by with_reducible assumption)) | (with_reducible refine bturn ?_ (by with_reducible assumption) ?_) | go_size))
  have j1 := J0.out.step hb1
  have i1 := I0.out.step hb1
  have J1 := Lib.hid j1
  have I1 := Lib.hid i1
  clear qu0 qu1 qu2 qu3 qu4 qu5 qu6 qu7 zu0 zu1 zu2 zu3 zu4 zu5 zu6 zu7 hlu hllu qv0 qv1 qv2 qv3 qv4 qv5 qv6 qv7 zv0 zv1 zv2 zv3 zv4 zv5 zv6 zv7 hlv hllv Hj0 Hi0 J0 I0 hb1 KB1
  have hlu := j1.lt; have hllu := lts hlu; have qu0 := j1.cell 0; have qu1 := j1.cell 1; have qu2 := j1.cell 2; have qu3 := j1.cell 3; have qu4 := j1.cell 4; have qu5 := j1.cell 5; have qu6 := j1.cell 6; have qu7 := j1.cell 7; simp at qu0 qu1 qu2 qu3 qu4 qu5 qu6 qu7; have zu0 := j1.frozen 0; have zu1 := j1.frozen 1; have zu2 := j1.frozen 2; have zu3 := j1.frozen 3; have zu4 := j1.frozen 4; have zu5 := j1.frozen 5; have zu6 := j1.frozen 6; have zu7 := j1.frozen 7; have Hj1 := Lib.hid j1; clear j1
  have hlv := i1.lt; have hllv := lts hlv; have qv0 := i1.cell 0; have qv1 := i1.cell 1; have qv2 := i1.cell 2; have qv3 := i1.cell 3; have qv4 := i1.cell 4; have qv5 := i1.cell 5; have qv6 := i1.cell 6; have qv7 := i1.cell 7; simp at qv0 qv1 qv2 qv3 qv4 qv5 qv6 qv7; have zv0 := i1.frozen 0; have zv1 := i1.frozen 1; have zv2 := i1.frozen 2; have zv3 := i1.frozen 3; have zv4 := i1.frozen 4; have zv5 := i1.frozen 5; have zv6 := i1.frozen 6; have zv7 := i1.frozen 7; have Hi1 := Lib.hid i1; clear i1
  go_wp2_with fail
  refine (KB2.out _ hb01).mono ?_
  rintro e w2 ⟨rfl, hb2⟩
  have hb02 : Below w.heap.size w w2 := bstep hb01 hb2
  have j2 := J1.out.step hb2
  have i2 := I1.out.step hb2
  clear qu0 qu1 qu2 qu3 qu4 qu5 qu6 qu7 zu0 zu1 zu2 zu3 zu4 zu5 zu6 zu7 hlu hllu qv0 qv1 qv2 qv3 qv4 qv5 qv6 qv7 zv0 zv1 zv2 zv3 zv4 zv5 zv6 zv7 hlv hllv Hj1 Hi1 J1 I1 hb2 KB2 hb01
  clear j2 i2
  go_wp2_with fail
  refine (HW.out _ hb02).mono ?_
  rintro _ w9 ⟨rfl, hb9⟩
  go_wp2_with fail
  go_returns
  exact ⟨rfl, bstep hb02 hb9⟩
set_option maxHeartbeats 8000000 in
set_option maxRecDepth 100000 in
theorem es_ok (ox kx nx sx : Int) (qx : ByteArray) (mx : Int) (rx : ByteArray) (Bx : Option Addr) (lx cx : Nat) (oy ky ny sy : Int) (qy : ByteArray) (my : Int) (ry : ByteArray) (By : Option Addr) (ly cy : Nat) (z1 z2 : Int) (b1 b2 : Bool) (h1 : ¬ z1 < 0) (h2 : ¬ z2 < 0) (w : World)
    (HW : Hid (∀ W, Below w.heap.size w W → Calls Tryz.prog 20 #[] W fun e w' => e = .returned (.bool true) ∧ Below W.heap.size W w'))
    (KB1 : Hid (∀ W, Below w.heap.size w W → Calls Tryz.prog 19 #[.agg #[.int .i64 ox, .int .i64 kx, .int .i64 nx, .int .i64 sx, .string qx, .int .i64 mx, .string rx, .slice Bx lx cx], .int .i64 1, .int .i64 500] W fun e w' => e = .returned (.int .i64 z1) ∧ Below W.heap.size W w'))
    (KB2 : Hid (∀ W, Below w.heap.size w W → Calls Tryz.prog 19 #[.agg #[.int .i64 oy, .int .i64 ky, .int .i64 ny, .int .i64 sy, .string qy, .int .i64 my, .string ry, .slice By ly cy], .int .i64 1, .int .i64 500] W fun e w' => e = .returned (.int .i64 z2) ∧ Below W.heap.size W w'))
    (KS1 : Hid (∀ W, Below w.heap.size w W → Calls Tryz.prog 32 #[.agg #[.int .i64 ox, .int .i64 kx, .int .i64 nx, .int .i64 sx, .string qx, .int .i64 mx, .string rx, .slice Bx lx cx]] W fun e w' => e = .returned (.bool b1) ∧ Below W.heap.size W w'))
    (KS2 : Hid (∀ W, Below w.heap.size w W → Calls Tryz.prog 22 #[.agg #[.int .i64 ox, .int .i64 kx, .int .i64 nx, .int .i64 sx, .string qx, .int .i64 mx, .string rx, .slice Bx lx cx]] W fun e w' => e = .returned (.bool b1) ∧ Below W.heap.size W w'))
    (KS3 : Hid (∀ W, Below w.heap.size w W → Calls Tryz.prog 33 #[.agg #[.int .i64 ox, .int .i64 kx, .int .i64 nx, .int .i64 sx, .string qx, .int .i64 mx, .string rx, .slice Bx lx cx], .agg #[.int .i64 oy, .int .i64 ky, .int .i64 ny, .int .i64 sy, .string qy, .int .i64 my, .string ry, .slice By ly cy]] W fun e w' => e = .returned (.bool b2) ∧ Below W.heap.size W w'))
    (KS4 : Hid (∀ W, Below w.heap.size w W → Calls Tryz.prog 31 #[.agg #[.int .i64 ox, .int .i64 kx, .int .i64 nx, .int .i64 sx, .string qx, .int .i64 mx, .string rx, .slice Bx lx cx], .agg #[.int .i64 oy, .int .i64 ky, .int .i64 ny, .int .i64 sy, .string qy, .int .i64 my, .string ry, .slice By ly cy]] W fun e w' => e = .returned (.bool b2) ∧ Below W.heap.size W w')) :
    Calls Tryz.prog 11 #[.agg #[.int .i64 ox, .int .i64 kx, .int .i64 nx, .int .i64 sx, .string qx, .int .i64 mx, .string rx, .slice Bx lx cx], .agg #[.int .i64 oy, .int .i64 ky, .int .i64 ny, .int .i64 sy, .string qy, .int .i64 my, .string ry, .slice By ly cy]] w fun e w' => e = .returned (.bool true) ∧ Below w.heap.size w w' := by
  have j0 : Blk ((w.alloc (.cells #[.int .i64 ox, .int .i64 kx, .int .i64 nx, .int .i64 sx, .string qx, .int .i64 mx, .string rx, .slice Bx lx cx] 33)).alloc (.cells #[.int .i64 oy, .int .i64 ky, .int .i64 ny, .int .i64 sy, .string qy, .int .i64 my, .string ry, .slice By ly cy] 33)) w.heap.size 33 #[.int .i64 ox, .int .i64 kx, .int .i64 nx, .int .i64 sx, .string qx, .int .i64 mx, .string rx, .slice Bx lx cx] := (Blk.new _ _ _).alloc _
  have i0 : Blk ((w.alloc (.cells #[.int .i64 ox, .int .i64 kx, .int .i64 nx, .int .i64 sx, .string qx, .int .i64 mx, .string rx, .slice Bx lx cx] 33)).alloc (.cells #[.int .i64 oy, .int .i64 ky, .int .i64 ny, .int .i64 sy, .string qy, .int .i64 my, .string ry, .slice By ly cy] 33)) (w.heap.size + 1) 33 #[.int .i64 oy, .int .i64 ky, .int .i64 ny, .int .i64 sy, .string qy, .int .i64 my, .string ry, .slice By ly cy] := Blk.new' _ _ _ (by simp)
  have J0 := Lib.hid j0
  have I0 := Lib.hid i0
  go_enter Tryz.func11, Tryz.ntmps11
  have hlu := j0.lt; have hllu := lts hlu; have qu0 := j0.cell 0; have qu1 := j0.cell 1; have qu2 := j0.cell 2; have qu3 := j0.cell 3; have qu4 := j0.cell 4; have qu5 := j0.cell 5; have qu6 := j0.cell 6; have qu7 := j0.cell 7; simp at qu0 qu1 qu2 qu3 qu4 qu5 qu6 qu7; have zu0 := j0.frozen 0; have zu1 := j0.frozen 1; have zu2 := j0.frozen 2; have zu3 := j0.frozen 3; have zu4 := j0.frozen 4; have zu5 := j0.frozen 5; have zu6 := j0.frozen 6; have zu7 := j0.frozen 7; have Hj0 := Lib.hid j0; clear j0
  have hlv := i0.lt; have hllv := lts hlv; have qv0 := i0.cell 0; have qv1 := i0.cell 1; have qv2 := i0.cell 2; have qv3 := i0.cell 3; have qv4 := i0.cell 4; have qv5 := i0.cell 5; have qv6 := i0.cell 6; have qv7 := i0.cell 7; simp at qv0 qv1 qv2 qv3 qv4 qv5 qv6 qv7; have zv0 := i0.frozen 0; have zv1 := i0.frozen 1; have zv2 := i0.frozen 2; have zv3 := i0.frozen 3; have zv4 := i0.frozen 4; have zv5 := i0.frozen 5; have zv6 := i0.frozen 6; have zv7 := i0.frozen 7; have Hi0 := Lib.hid i0; clear i0
  go_wp2_with fail
  refine (KB1.out _ (by (repeat' (first | (with_reducible exact Below.refl _ _) | (with_reducible assumption) | (with_reducible refine balloc ?_ _) | (with_reducible refine Below.drew ?_) | (with_reducible refine bset ?_ ?_ _) | (with_reducible refine bstep ?_ (by with_reducible assumption)) | (with_reducible refine bturn ?_ (by with_reducible assumption) ?_) | go_size)))).mono ?_
  rintro e w1 ⟨rfl, hb1⟩
  have hb01 : Below w.heap.size w w1 := by (repeat' (first | (with_reducible exact Below.refl _ _) | (with_reducible assumption) | (with_reducible refine balloc ?_ _) | (with_reducible refine Below.drew ?_) | (with_reducible refine bset ?_ ?_ _) | (with_reducible refine bstep ?_ (by with_reducible assumption)) | (with_reducible refine bturn ?_ (by with_reducible assumption) ?_) | go_size))
  have j1 := J0.out.step hb1
  have i1 := I0.out.step hb1
  have J1 := Lib.hid j1
  have I1 := Lib.hid i1
  clear qu0 qu1 qu2 qu3 qu4 qu5 qu6 qu7 zu0 zu1 zu2 zu3 zu4 zu5 zu6 zu7 hlu hllu qv0 qv1 qv2 qv3 qv4 qv5 qv6 qv7 zv0 zv1 zv2 zv3 zv4 zv5 zv6 zv7 hlv hllv Hj0 Hi0 J0 I0 hb1 KB1
  have hlu := j1.lt; have hllu := lts hlu; have qu0 := j1.cell 0; have qu1 := j1.cell 1; have qu2 := j1.cell 2; have qu3 := j1.cell 3; have qu4 := j1.cell 4; have qu5 := j1.cell 5; have qu6 := j1.cell 6; have qu7 := j1.cell 7; simp at qu0 qu1 qu2 qu3 qu4 qu5 qu6 qu7; have zu0 := j1.frozen 0; have zu1 := j1.frozen 1; have zu2 := j1.frozen 2; have zu3 := j1.frozen 3; have zu4 := j1.frozen 4; have zu5 := j1.frozen 5; have zu6 := j1.frozen 6; have zu7 := j1.frozen 7; have Hj1 := Lib.hid j1; clear j1
  have hlv := i1.lt; have hllv := lts hlv; have qv0 := i1.cell 0; have qv1 := i1.cell 1; have qv2 := i1.cell 2; have qv3 := i1.cell 3; have qv4 := i1.cell 4; have qv5 := i1.cell 5; have qv6 := i1.cell 6; have qv7 := i1.cell 7; simp at qv0 qv1 qv2 qv3 qv4 qv5 qv6 qv7; have zv0 := i1.frozen 0; have zv1 := i1.frozen 1; have zv2 := i1.frozen 2; have zv3 := i1.frozen 3; have zv4 := i1.frozen 4; have zv5 := i1.frozen 5; have zv6 := i1.frozen 6; have zv7 := i1.frozen 7; have Hi1 := Lib.hid i1; clear i1
  go_wp2_with fail
  refine (KB2.out _ hb01).mono ?_
  rintro e w2 ⟨rfl, hb2⟩
  have hb02 : Below w.heap.size w w2 := bstep hb01 hb2
  have j2 := J1.out.step hb2
  have i2 := I1.out.step hb2
  clear qu0 qu1 qu2 qu3 qu4 qu5 qu6 qu7 zu0 zu1 zu2 zu3 zu4 zu5 zu6 zu7 hlu hllu qv0 qv1 qv2 qv3 qv4 qv5 qv6 qv7 zv0 zv1 zv2 zv3 zv4 zv5 zv6 zv7 hlv hllv Hj1 Hi1 J1 I1 hb2 KB2 hb01
  have hlu := j2.lt; have hllu := lts hlu; have qu0 := j2.cell 0; have qu1 := j2.cell 1; have qu2 := j2.cell 2; have qu3 := j2.cell 3; have qu4 := j2.cell 4; have qu5 := j2.cell 5; have qu6 := j2.cell 6; have qu7 := j2.cell 7; simp at qu0 qu1 qu2 qu3 qu4 qu5 qu6 qu7; have zu0 := j2.frozen 0; have zu1 := j2.frozen 1; have zu2 := j2.frozen 2; have zu3 := j2.frozen 3; have zu4 := j2.frozen 4; have zu5 := j2.frozen 5; have zu6 := j2.frozen 6; have zu7 := j2.frozen 7; have Hj2 := Lib.hid j2; clear j2
  have hlv := i2.lt; have hllv := lts hlv; have qv0 := i2.cell 0; have qv1 := i2.cell 1; have qv2 := i2.cell 2; have qv3 := i2.cell 3; have qv4 := i2.cell 4; have qv5 := i2.cell 5; have qv6 := i2.cell 6; have qv7 := i2.cell 7; simp at qv0 qv1 qv2 qv3 qv4 qv5 qv6 qv7; have zv0 := i2.frozen 0; have zv1 := i2.frozen 1; have zv2 := i2.frozen 2; have zv3 := i2.frozen 3; have zv4 := i2.frozen 4; have zv5 := i2.frozen 5; have zv6 := i2.frozen 6; have zv7 := i2.frozen 7; have Hi2 := Lib.hid i2; clear i2
  go_upto_region 3 with fail
  go_region_held3 (fun w' => Below w.heap.size w w' ∧ (w'.cell? ⟨w.heap.size, 0, none⟩ = some (.int .i64 ox) ∧ w'.cell? ⟨w.heap.size, 1, none⟩ = some (.int .i64 kx) ∧ w'.cell? ⟨w.heap.size, 2, none⟩ = some (.int .i64 nx) ∧ w'.cell? ⟨w.heap.size, 3, none⟩ = some (.int .i64 sx) ∧ w'.cell? ⟨w.heap.size, 4, none⟩ = some (.string qx) ∧ w'.cell? ⟨w.heap.size, 5, none⟩ = some (.int .i64 mx) ∧ w'.cell? ⟨w.heap.size, 6, none⟩ = some (.string rx) ∧ w'.cell? ⟨w.heap.size, 7, none⟩ = some (.slice Bx lx cx)) ∧ w'.cell? ⟨w.heap.size + 1, 0, none⟩ = some (.int .i64 oy) ∧ w'.cell? ⟨w.heap.size + 1, 1, none⟩ = some (.int .i64 ky) ∧ w'.cell? ⟨w.heap.size + 1, 2, none⟩ = some (.int .i64 ny) ∧ w'.cell? ⟨w.heap.size + 1, 3, none⟩ = some (.int .i64 sy) ∧ w'.cell? ⟨w.heap.size + 1, 4, none⟩ = some (.string qy) ∧ w'.cell? ⟨w.heap.size + 1, 5, none⟩ = some (.int .i64 my) ∧ w'.cell? ⟨w.heap.size + 1, 6, none⟩ = some (.string ry) ∧ w'.cell? ⟨w.heap.size + 1, 7, none⟩ = some (.slice By ly cy)) ((go_split_ands; (repeat' apply And.intro) <;> first | assumption | exact keep1 (by assumption) (by assumption) | exact bstep (by assumption) (by assumption) | (repeat' (first | (with_reducible exact Below.refl _ _) | (with_reducible assumption) | (with_reducible refine balloc ?_ _) | (with_reducible refine Below.drew ?_) | (with_reducible refine bset ?_ ?_ _) | (with_reducible refine bstep ?_ (by with_reducible assumption)) | (with_reducible refine bturn ?_ (by with_reducible assumption) ?_) | go_size))))
    (first
      | (go_at_call 20; go_split_ands; refine (HW.out _ (by first | assumption | (repeat' (first | (with_reducible exact Below.refl _ _) | (with_reducible assumption) | (with_reducible refine balloc ?_ _) | (with_reducible refine Below.drew ?_) | (with_reducible refine bset ?_ ?_ _) | (with_reducible refine bstep ?_ (by with_reducible assumption)) | (with_reducible refine bturn ?_ (by with_reducible assumption) ?_) | go_size)))).mono ?_; rintro e w' ⟨rfl, hb'⟩)
      | (go_at_call 32; go_split_ands; refine (KS1.out _ (by first | assumption | (repeat' (first | (with_reducible exact Below.refl _ _) | (with_reducible assumption) | (with_reducible refine balloc ?_ _) | (with_reducible refine Below.drew ?_) | (with_reducible refine bset ?_ ?_ _) | (with_reducible refine bstep ?_ (by with_reducible assumption)) | (with_reducible refine bturn ?_ (by with_reducible assumption) ?_) | go_size)))).mono ?_; rintro e w' ⟨rfl, hb'⟩)
      | (go_at_call 22; go_split_ands; refine (KS2.out _ (by first | assumption | (repeat' (first | (with_reducible exact Below.refl _ _) | (with_reducible assumption) | (with_reducible refine balloc ?_ _) | (with_reducible refine Below.drew ?_) | (with_reducible refine bset ?_ ?_ _) | (with_reducible refine bstep ?_ (by with_reducible assumption)) | (with_reducible refine bturn ?_ (by with_reducible assumption) ?_) | go_size)))).mono ?_; rintro e w' ⟨rfl, hb'⟩)
      | (go_at_call 33; go_split_ands; refine (KS3.out _ (by first | assumption | (repeat' (first | (with_reducible exact Below.refl _ _) | (with_reducible assumption) | (with_reducible refine balloc ?_ _) | (with_reducible refine Below.drew ?_) | (with_reducible refine bset ?_ ?_ _) | (with_reducible refine bstep ?_ (by with_reducible assumption)) | (with_reducible refine bturn ?_ (by with_reducible assumption) ?_) | go_size)))).mono ?_; rintro e w' ⟨rfl, hb'⟩)
      | (go_at_call 31; go_split_ands; refine (KS4.out _ (by first | assumption | (repeat' (first | (with_reducible exact Below.refl _ _) | (with_reducible assumption) | (with_reducible refine balloc ?_ _) | (with_reducible refine Below.drew ?_) | (with_reducible refine bset ?_ ?_ _) | (with_reducible refine bstep ?_ (by with_reducible assumption)) | (with_reducible refine bturn ?_ (by with_reducible assumption) ?_) | go_size)))).mono ?_; rintro e w' ⟨rfl, hb'⟩))
  go_split_ands
  go_wp2_with fail
  go_returns
  exact ⟨by first | rfl | simp, by assumption⟩
theorem esnd_any (hTA : Hid ETextAny) (x y : Ex) (cs ds : Array Value) (m : Int) (w : World) (hw : OKW m w) (hx : XM (fun _ => True) w x cs) (hv : EV x) (hy : XM (fun _ => True) w y ds) (_hu : EV y) :
    Calls Tryz.prog 11 #[.agg cs, .agg ds] w fun e w' => e = .returned (.bool true) ∧ Below w.heap.size w w' := by
  have HW := Lib.hid fun W (h : Below w.heap.size w W) => awake_ex hTA m W (hw.step h)
  have K1 := Lib.hid fun W (h : Below w.heap.size w W) => big8_all w x cs 1 500 W hx h (by decide) (by decide) (by decide)
  have K2 := Lib.hid fun W (h : Below w.heap.size w W) => big8_all w y ds 1 500 W hy h (by decide) (by decide) (by decide)
  have S1 := Lib.hid fun W (h : Below w.heap.size w W) => sound_any' x cs m W (hw.step h) (hx.step h) hv
  have S2 := Lib.hid fun W (h : Below w.heap.size w W) => rsoundx_any x cs W (hx.step h) hv
  have S3 := Lib.hid fun W (h : Below w.heap.size w W) => same_all w x y cs ds W hx hy h
  have S4 := Lib.hid fun W (h : Below w.heap.size w W) => rsame_all w x y cs ds W hx hy h
  obtain ⟨ox, kx, nx, sx, qx, mx, rx, Bx, lx, cx, hcs⟩ := hx.cells
  obtain ⟨oy, ky, ny, sy, qy, my, ry, By, ly, cy, hds⟩ := hy.cells
  subst hcs hds
  by_cases h1 : bigS x 1 500 < 0
  · exact es_big1 ox kx nx sx qx mx rx Bx lx cx oy ky ny sy qy my ry By ly cy _ 0 h1 w HW K1
  · by_cases h2 : bigS y 1 500 < 0
    · exact es_big2 ox kx nx sx qx mx rx Bx lx cx oy ky ny sy qy my ry By ly cy _ _ h1 h2 w HW K1 K2
    · exact es_ok ox kx nx sx qx mx rx Bx lx cx oy ky ny sy qy my ry By ly cy _ _ _ _ h1 h2 w HW K1 K2 S1 S2 S3 S4
end Go.Proofs.YtkkeplmaphcblaaGreatDoor
