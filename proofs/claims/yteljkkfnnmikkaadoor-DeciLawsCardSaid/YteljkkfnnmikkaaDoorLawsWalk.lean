/- The walk of DeciLaws. -/
import Derived.Test.YteljkkfnnmikkaaDoorMulW
import Derived.Test.YteljkkfnnmikkaaDoorRefA
import Derived.Test.YteljkkfnnmikkaaDoorAwake
namespace Go.Proofs.YteljkkfnnmikkaaDoor
open Go.RowKit
attribute [local go_sem high] run_dec_eql run_dec_neq

set_option maxHeartbeats 4000000 in
set_option maxRecDepth 100000 in
theorem laws_none (n s n2 s2 n3 s3 k : Int) (w : World) (x p z t y : Res) (cm : Int) (HW : Hid (∀ W, Below w.heap.size w W → Calls Tryd.prog 11 #[] W fun e w' => e = .returned (.bool true) ∧ Below W.heap.size W w'))
    (HX1 : Hid (∀ W, Calls Tryd.prog 22 #[.agg #[.int .i64 n, .int .i64 s], .agg #[.int .i64 n2, .int .i64 s2]] W fun e w' => e = .returned (.tuple #[.agg #[.int .i64 x.n, .int .i64 x.s], .int .i64 x.e]) ∧ Below W.heap.size W w'))
    (HX2 : Hid (∀ W, Calls Tryd.prog 22 #[.agg #[.int .i64 n2, .int .i64 s2], .agg #[.int .i64 n, .int .i64 s]] W fun e w' => e = .returned (.tuple #[.agg #[.int .i64 x.n, .int .i64 x.s], .int .i64 x.e]) ∧ Below W.heap.size W w'))
    (HP1 : Hid (∀ W, Calls Tryd.prog 24 #[.agg #[.int .i64 n, .int .i64 s], .agg #[.int .i64 n2, .int .i64 s2]] W fun e w' => e = .returned (.tuple #[.agg #[.int .i64 p.n, .int .i64 p.s], .int .i64 p.e]) ∧ Below W.heap.size W w'))
    (HP2 : Hid (∀ W, Calls Tryd.prog 24 #[.agg #[.int .i64 n2, .int .i64 s2], .agg #[.int .i64 n, .int .i64 s]] W fun e w' => e = .returned (.tuple #[.agg #[.int .i64 p.n, .int .i64 p.s], .int .i64 p.e]) ∧ Below W.heap.size W w'))
    (hx : (x.e == 0) = false) :
    Calls Tryd.prog 8 #[.agg #[.int .i64 n, .int .i64 s], .agg #[.int .i64 n2, .int .i64 s2], .agg #[.int .i64 n3, .int .i64 s3], .int .i16 k] w fun e w' => e = .returned (.bool true) ∧ Below w.heap.size w w' := by
  have ba := ((Blk.new w 23 #[.int .i64 n, .int .i64 s]).alloc (.cells #[.int .i64 n2, .int .i64 s2] 23)).alloc (.cells #[.int .i64 n3, .int .i64 s3] 23)
  have bb := (Blk.new' (w.alloc (.cells #[.int .i64 n, .int .i64 s] 23)) 23 #[.int .i64 n2, .int .i64 s2] (n := w.heap.size + 1) (by simp)).alloc (.cells #[.int .i64 n3, .int .i64 s3] 23)
  have bc := Blk.new' ((w.alloc (.cells #[.int .i64 n, .int .i64 s] 23)).alloc (.cells #[.int .i64 n2, .int .i64 s2] 23)) 23 #[.int .i64 n3, .int .i64 s3] (n := w.heap.size + 1 + 1) (by simp)
  go_enter Tryd.func8, Tryd.ntmps8
  go_wp2_with fail
  refine (HX1.out _).mono ?_
  rintro e w1 ⟨rfl, hw1⟩
  replace ba := ba.step hw1
  replace bb := bb.step hw1
  replace bc := bc.step hw1
  replace ba := ba.alloc (.cells #[.int .i64 x.n, .int .i64 x.s] 23)
  replace bb := bb.alloc (.cells #[.int .i64 x.n, .int .i64 x.s] 23)
  replace bc := bc.alloc (.cells #[.int .i64 x.n, .int .i64 x.s] 23)
  have bx := Blk.new w1 23 #[.int .i64 x.n, .int .i64 x.s]
  have bb0 := bb.cell 0
  have bb1 := bb.cell 1
  have ba0 := ba.cell 0
  have ba1 := ba.cell 1
  simp at bb0 bb1 ba0 ba1
  go_wp2_with fail
  refine (HX2.out _).mono ?_
  rintro e w2 ⟨rfl, hw2⟩
  clear bb0 bb1 ba0 ba1
  replace ba := ba.step hw2
  replace bb := bb.step hw2
  replace bc := bc.step hw2
  replace bx := bx.step hw2
  replace ba := ba.alloc (.cells #[.int .i64 x.n, .int .i64 x.s] 23)
  replace bb := bb.alloc (.cells #[.int .i64 x.n, .int .i64 x.s] 23)
  replace bc := bc.alloc (.cells #[.int .i64 x.n, .int .i64 x.s] 23)
  replace bx := bx.alloc (.cells #[.int .i64 x.n, .int .i64 x.s] 23)
  have b_y := Blk.new w2 23 #[.int .i64 x.n, .int .i64 x.s]
  have ba0 := ba.cell 0
  have ba1 := ba.cell 1
  have bb0 := bb.cell 0
  have bb1 := bb.cell 1
  simp at ba0 ba1 bb0 bb1
  go_wp2_with fail
  refine (HP1.out _).mono ?_
  rintro e w3 ⟨rfl, hw3⟩
  clear ba0 ba1 bb0 bb1
  replace ba := ba.step hw3
  replace bb := bb.step hw3
  replace bc := bc.step hw3
  replace bx := bx.step hw3
  replace b_y := b_y.step hw3
  replace ba := ba.alloc (.cells #[.int .i64 p.n, .int .i64 p.s] 23)
  replace bb := bb.alloc (.cells #[.int .i64 p.n, .int .i64 p.s] 23)
  replace bc := bc.alloc (.cells #[.int .i64 p.n, .int .i64 p.s] 23)
  replace bx := bx.alloc (.cells #[.int .i64 p.n, .int .i64 p.s] 23)
  replace b_y := b_y.alloc (.cells #[.int .i64 p.n, .int .i64 p.s] 23)
  have bp := Blk.new w3 23 #[.int .i64 p.n, .int .i64 p.s]
  have bb0 := bb.cell 0
  have bb1 := bb.cell 1
  have ba0 := ba.cell 0
  have ba1 := ba.cell 1
  simp at bb0 bb1 ba0 ba1
  go_wp2_with fail
  refine (HP2.out _).mono ?_
  rintro e w4 ⟨rfl, hw4⟩
  clear bb0 bb1 ba0 ba1
  replace ba := ba.step hw4
  replace bb := bb.step hw4
  replace bc := bc.step hw4
  replace bx := bx.step hw4
  replace b_y := b_y.step hw4
  replace bp := bp.step hw4
  replace ba := ba.alloc (.cells #[.int .i64 p.n, .int .i64 p.s] 23)
  replace bb := bb.alloc (.cells #[.int .i64 p.n, .int .i64 p.s] 23)
  replace bc := bc.alloc (.cells #[.int .i64 p.n, .int .i64 p.s] 23)
  replace bx := bx.alloc (.cells #[.int .i64 p.n, .int .i64 p.s] 23)
  replace b_y := b_y.alloc (.cells #[.int .i64 p.n, .int .i64 p.s] 23)
  replace bp := bp.alloc (.cells #[.int .i64 p.n, .int .i64 p.s] 23)
  have bq := Blk.new w4 23 #[.int .i64 p.n, .int .i64 p.s]
  go_wp2_with fail
  refine (HW.out _ (by (repeat' (first | (with_reducible exact Below.refl _ _) | (with_reducible assumption) | (with_reducible refine balloc ?_ _) | (with_reducible refine Below.drew ?_) | (with_reducible refine bset ?_ ?_ _) | (with_reducible refine bstep ?_ (by with_reducible assumption)) | (with_reducible refine bturn ?_ (by with_reducible assumption) ?_) | go_size)))).mono ?_
  rintro e w5 ⟨rfl, hw5⟩
  replace ba := ba.step hw5
  replace bb := bb.step hw5
  replace bc := bc.step hw5
  replace bx := bx.step hw5
  replace b_y := b_y.step hw5
  replace bp := bp.step hw5
  replace bq := bq.step hw5
  have bx0 := bx.cell 0
  have bx1 := bx.cell 1
  have b_y0 := b_y.cell 0
  have b_y1 := b_y.cell 1
  have bp0 := bp.cell 0
  have bp1 := bp.cell 1
  have bq0 := bq.cell 0
  have bq1 := bq.cell 1
  simp at bx0 bx1 b_y0 b_y1 bp0 bp1 bq0 bq1
  go_wp2_with fail
  go_returns
  exact ⟨rfl, by (repeat' (first | (with_reducible exact Below.refl _ _) | (with_reducible assumption) | (with_reducible refine balloc ?_ _) | (with_reducible refine Below.drew ?_) | (with_reducible refine bset ?_ ?_ _) | (with_reducible refine bstep ?_ (by with_reducible assumption)) | (with_reducible refine bturn ?_ (by with_reducible assumption) ?_) | go_size))⟩

set_option maxHeartbeats 4000000 in
set_option maxRecDepth 100000 in
theorem laws_sum_zero (n s n2 s2 n3 s3 k : Int) (w : World) (x p z t y : Res) (cm : Int) (HW : Hid (∀ W, Below w.heap.size w W → Calls Tryd.prog 11 #[] W fun e w' => e = .returned (.bool true) ∧ Below W.heap.size W w'))
    (HX1 : Hid (∀ W, Calls Tryd.prog 22 #[.agg #[.int .i64 n, .int .i64 s], .agg #[.int .i64 n2, .int .i64 s2]] W fun e w' => e = .returned (.tuple #[.agg #[.int .i64 x.n, .int .i64 x.s], .int .i64 x.e]) ∧ Below W.heap.size W w'))
    (HX2 : Hid (∀ W, Calls Tryd.prog 22 #[.agg #[.int .i64 n2, .int .i64 s2], .agg #[.int .i64 n, .int .i64 s]] W fun e w' => e = .returned (.tuple #[.agg #[.int .i64 x.n, .int .i64 x.s], .int .i64 x.e]) ∧ Below W.heap.size W w'))
    (HP1 : Hid (∀ W, Calls Tryd.prog 24 #[.agg #[.int .i64 n, .int .i64 s], .agg #[.int .i64 n2, .int .i64 s2]] W fun e w' => e = .returned (.tuple #[.agg #[.int .i64 p.n, .int .i64 p.s], .int .i64 p.e]) ∧ Below W.heap.size W w'))
    (HP2 : Hid (∀ W, Calls Tryd.prog 24 #[.agg #[.int .i64 n2, .int .i64 s2], .agg #[.int .i64 n, .int .i64 s]] W fun e w' => e = .returned (.tuple #[.agg #[.int .i64 p.n, .int .i64 p.s], .int .i64 p.e]) ∧ Below W.heap.size W w'))
    (hx : x.e = 0)
    (HZ : Hid (∀ W, Calls Tryd.prog 22 #[.agg #[.int .i64 n3, .int .i64 s3], .agg #[.int .i64 n2, .int .i64 s2]] W fun e w' => e = .returned (.tuple #[.agg #[.int .i64 z.n, .int .i64 z.s], .int .i64 z.e]) ∧ Below W.heap.size W w'))
    (HC : Hid (∀ W, Calls Tryd.prog 25 #[.agg #[.int .i64 n, .int .i64 s], .agg #[.int .i64 n3, .int .i64 s3]] W fun e w' => e = .returned (.tuple #[.int .i64 cm, .int .i64 0]) ∧ Below W.heap.size W w'))
    (hz : z.e = 0) (HCx : Hid (∀ W, Calls Tryd.prog 25 #[.agg #[.int .i64 x.n, .int .i64 x.s], .agg #[.int .i64 z.n, .int .i64 z.s]] W fun e w' => e = .returned (.tuple #[.int .i64 cm, .int .i64 0]) ∧ Below W.heap.size W w')) (hk : k = 0) :
    Calls Tryd.prog 8 #[.agg #[.int .i64 n, .int .i64 s], .agg #[.int .i64 n2, .int .i64 s2], .agg #[.int .i64 n3, .int .i64 s3], .int .i16 k] w fun e w' => e = .returned (.bool true) ∧ Below w.heap.size w w' := by
  subst hk
  have ba := ((Blk.new w 23 #[.int .i64 n, .int .i64 s]).alloc (.cells #[.int .i64 n2, .int .i64 s2] 23)).alloc (.cells #[.int .i64 n3, .int .i64 s3] 23)
  have bb := (Blk.new' (w.alloc (.cells #[.int .i64 n, .int .i64 s] 23)) 23 #[.int .i64 n2, .int .i64 s2] (n := w.heap.size + 1) (by simp)).alloc (.cells #[.int .i64 n3, .int .i64 s3] 23)
  have bc := Blk.new' ((w.alloc (.cells #[.int .i64 n, .int .i64 s] 23)).alloc (.cells #[.int .i64 n2, .int .i64 s2] 23)) 23 #[.int .i64 n3, .int .i64 s3] (n := w.heap.size + 1 + 1) (by simp)
  go_enter Tryd.func8, Tryd.ntmps8
  go_wp2_with fail
  refine (HX1.out _).mono ?_
  rintro e w1 ⟨rfl, hw1⟩
  replace ba := ba.step hw1
  replace bb := bb.step hw1
  replace bc := bc.step hw1
  replace ba := ba.alloc (.cells #[.int .i64 x.n, .int .i64 x.s] 23)
  replace bb := bb.alloc (.cells #[.int .i64 x.n, .int .i64 x.s] 23)
  replace bc := bc.alloc (.cells #[.int .i64 x.n, .int .i64 x.s] 23)
  have bx := Blk.new w1 23 #[.int .i64 x.n, .int .i64 x.s]
  have bb0 := bb.cell 0
  have bb1 := bb.cell 1
  have ba0 := ba.cell 0
  have ba1 := ba.cell 1
  simp at bb0 bb1 ba0 ba1
  go_wp2_with fail
  refine (HX2.out _).mono ?_
  rintro e w2 ⟨rfl, hw2⟩
  clear bb0 bb1 ba0 ba1
  replace ba := ba.step hw2
  replace bb := bb.step hw2
  replace bc := bc.step hw2
  replace bx := bx.step hw2
  replace ba := ba.alloc (.cells #[.int .i64 x.n, .int .i64 x.s] 23)
  replace bb := bb.alloc (.cells #[.int .i64 x.n, .int .i64 x.s] 23)
  replace bc := bc.alloc (.cells #[.int .i64 x.n, .int .i64 x.s] 23)
  replace bx := bx.alloc (.cells #[.int .i64 x.n, .int .i64 x.s] 23)
  have b_y := Blk.new w2 23 #[.int .i64 x.n, .int .i64 x.s]
  have ba0 := ba.cell 0
  have ba1 := ba.cell 1
  have bb0 := bb.cell 0
  have bb1 := bb.cell 1
  simp at ba0 ba1 bb0 bb1
  go_wp2_with fail
  refine (HP1.out _).mono ?_
  rintro e w3 ⟨rfl, hw3⟩
  clear ba0 ba1 bb0 bb1
  replace ba := ba.step hw3
  replace bb := bb.step hw3
  replace bc := bc.step hw3
  replace bx := bx.step hw3
  replace b_y := b_y.step hw3
  replace ba := ba.alloc (.cells #[.int .i64 p.n, .int .i64 p.s] 23)
  replace bb := bb.alloc (.cells #[.int .i64 p.n, .int .i64 p.s] 23)
  replace bc := bc.alloc (.cells #[.int .i64 p.n, .int .i64 p.s] 23)
  replace bx := bx.alloc (.cells #[.int .i64 p.n, .int .i64 p.s] 23)
  replace b_y := b_y.alloc (.cells #[.int .i64 p.n, .int .i64 p.s] 23)
  have bp := Blk.new w3 23 #[.int .i64 p.n, .int .i64 p.s]
  have bb0 := bb.cell 0
  have bb1 := bb.cell 1
  have ba0 := ba.cell 0
  have ba1 := ba.cell 1
  simp at bb0 bb1 ba0 ba1
  go_wp2_with fail
  refine (HP2.out _).mono ?_
  rintro e w4 ⟨rfl, hw4⟩
  clear bb0 bb1 ba0 ba1
  replace ba := ba.step hw4
  replace bb := bb.step hw4
  replace bc := bc.step hw4
  replace bx := bx.step hw4
  replace b_y := b_y.step hw4
  replace bp := bp.step hw4
  replace ba := ba.alloc (.cells #[.int .i64 p.n, .int .i64 p.s] 23)
  replace bb := bb.alloc (.cells #[.int .i64 p.n, .int .i64 p.s] 23)
  replace bc := bc.alloc (.cells #[.int .i64 p.n, .int .i64 p.s] 23)
  replace bx := bx.alloc (.cells #[.int .i64 p.n, .int .i64 p.s] 23)
  replace b_y := b_y.alloc (.cells #[.int .i64 p.n, .int .i64 p.s] 23)
  replace bp := bp.alloc (.cells #[.int .i64 p.n, .int .i64 p.s] 23)
  have bq := Blk.new w4 23 #[.int .i64 p.n, .int .i64 p.s]
  go_wp2_with fail
  refine (HW.out _ (by (repeat' (first | (with_reducible exact Below.refl _ _) | (with_reducible assumption) | (with_reducible refine balloc ?_ _) | (with_reducible refine Below.drew ?_) | (with_reducible refine bset ?_ ?_ _) | (with_reducible refine bstep ?_ (by with_reducible assumption)) | (with_reducible refine bturn ?_ (by with_reducible assumption) ?_) | go_size)))).mono ?_
  rintro e w5 ⟨rfl, hw5⟩
  replace ba := ba.step hw5
  replace bb := bb.step hw5
  replace bc := bc.step hw5
  replace bx := bx.step hw5
  replace b_y := b_y.step hw5
  replace bp := bp.step hw5
  replace bq := bq.step hw5
  have bx0 := bx.cell 0
  have bx1 := bx.cell 1
  have b_y0 := b_y.cell 0
  have b_y1 := b_y.cell 1
  have bp0 := bp.cell 0
  have bp1 := bp.cell 1
  have bq0 := bq.cell 0
  have bq1 := bq.cell 1
  simp at bx0 bx1 b_y0 b_y1 bp0 bp1 bq0 bq1
  have bc0 := bc.cell 0
  have bc1 := bc.cell 1
  have bb0 := bb.cell 0
  have bb1 := bb.cell 1
  simp at bc0 bc1 bb0 bb1
  go_wp2_with fail
  refine (HZ.out _).mono ?_
  rintro e w6 ⟨rfl, hw6⟩
  clear bx0 bx1 b_y0 b_y1 bp0 bp1 bq0 bq1 bc0 bc1 bb0 bb1
  replace ba := ba.step hw6
  replace bb := bb.step hw6
  replace bc := bc.step hw6
  replace bx := bx.step hw6
  replace b_y := b_y.step hw6
  replace bp := bp.step hw6
  replace bq := bq.step hw6
  replace ba := ba.alloc (.cells #[.int .i64 z.n, .int .i64 z.s] 23)
  replace bb := bb.alloc (.cells #[.int .i64 z.n, .int .i64 z.s] 23)
  replace bc := bc.alloc (.cells #[.int .i64 z.n, .int .i64 z.s] 23)
  replace bx := bx.alloc (.cells #[.int .i64 z.n, .int .i64 z.s] 23)
  replace b_y := b_y.alloc (.cells #[.int .i64 z.n, .int .i64 z.s] 23)
  replace bp := bp.alloc (.cells #[.int .i64 z.n, .int .i64 z.s] 23)
  replace bq := bq.alloc (.cells #[.int .i64 z.n, .int .i64 z.s] 23)
  have bz := Blk.new w6 23 #[.int .i64 z.n, .int .i64 z.s]
  clear b_y
  clear bp
  clear bq
  clear bb
  have ba0 := ba.cell 0
  have ba1 := ba.cell 1
  have bc0 := bc.cell 0
  have bc1 := bc.cell 1
  simp at ba0 ba1 bc0 bc1
  go_wp2_with fail
  refine (HC.out _).mono ?_
  rintro e w7 ⟨rfl, hw7⟩
  clear ba0 ba1 bc0 bc1
  replace ba := ba.step hw7
  replace bc := bc.step hw7
  replace bx := bx.step hw7
  replace bz := bz.step hw7
  have bx0 := bx.cell 0
  have bx1 := bx.cell 1
  have bz0 := bz.cell 0
  have bz1 := bz.cell 1
  simp at bx0 bx1 bz0 bz1
  go_wp2_with fail
  refine (HCx.out _).mono ?_
  rintro e w8 ⟨rfl, hw8⟩
  clear bx0 bx1 bz0 bz1
  replace ba := ba.step hw8
  replace bc := bc.step hw8
  replace bx := bx.step hw8
  replace bz := bz.step hw8
  have ba0 := ba.cell 0
  have ba1 := ba.cell 1
  simp at ba0 ba1
  go_wp2_with fail
  go_returns
  exact ⟨rfl, by (repeat' (first | (with_reducible exact Below.refl _ _) | (with_reducible assumption) | (with_reducible refine balloc ?_ _) | (with_reducible refine Below.drew ?_) | (with_reducible refine bset ?_ ?_ _) | (with_reducible refine bstep ?_ (by with_reducible assumption)) | (with_reducible refine bturn ?_ (by with_reducible assumption) ?_) | go_size))⟩

set_option maxHeartbeats 4000000 in
set_option maxRecDepth 100000 in
theorem laws_sum_far (n s n2 s2 n3 s3 k : Int) (w : World) (x p z t y : Res) (cm : Int) (HW : Hid (∀ W, Below w.heap.size w W → Calls Tryd.prog 11 #[] W fun e w' => e = .returned (.bool true) ∧ Below W.heap.size W w'))
    (HX1 : Hid (∀ W, Calls Tryd.prog 22 #[.agg #[.int .i64 n, .int .i64 s], .agg #[.int .i64 n2, .int .i64 s2]] W fun e w' => e = .returned (.tuple #[.agg #[.int .i64 x.n, .int .i64 x.s], .int .i64 x.e]) ∧ Below W.heap.size W w'))
    (HX2 : Hid (∀ W, Calls Tryd.prog 22 #[.agg #[.int .i64 n2, .int .i64 s2], .agg #[.int .i64 n, .int .i64 s]] W fun e w' => e = .returned (.tuple #[.agg #[.int .i64 x.n, .int .i64 x.s], .int .i64 x.e]) ∧ Below W.heap.size W w'))
    (HP1 : Hid (∀ W, Calls Tryd.prog 24 #[.agg #[.int .i64 n, .int .i64 s], .agg #[.int .i64 n2, .int .i64 s2]] W fun e w' => e = .returned (.tuple #[.agg #[.int .i64 p.n, .int .i64 p.s], .int .i64 p.e]) ∧ Below W.heap.size W w'))
    (HP2 : Hid (∀ W, Calls Tryd.prog 24 #[.agg #[.int .i64 n2, .int .i64 s2], .agg #[.int .i64 n, .int .i64 s]] W fun e w' => e = .returned (.tuple #[.agg #[.int .i64 p.n, .int .i64 p.s], .int .i64 p.e]) ∧ Below W.heap.size W w'))
    (hx : x.e = 0)
    (HZ : Hid (∀ W, Calls Tryd.prog 22 #[.agg #[.int .i64 n3, .int .i64 s3], .agg #[.int .i64 n2, .int .i64 s2]] W fun e w' => e = .returned (.tuple #[.agg #[.int .i64 z.n, .int .i64 z.s], .int .i64 z.e]) ∧ Below W.heap.size W w'))
    (HC : Hid (∀ W, Calls Tryd.prog 25 #[.agg #[.int .i64 n, .int .i64 s], .agg #[.int .i64 n3, .int .i64 s3]] W fun e w' => e = .returned (.tuple #[.int .i64 cm, .int .i64 0]) ∧ Below W.heap.size W w'))
    (hz : z.e = 0) (HCx : Hid (∀ W, Calls Tryd.prog 25 #[.agg #[.int .i64 x.n, .int .i64 x.s], .agg #[.int .i64 z.n, .int .i64 z.s]] W fun e w' => e = .returned (.tuple #[.int .i64 cm, .int .i64 0]) ∧ Below W.heap.size W w')) (k1 : -32768 ≤ k) (k2 : k ≤ 32767) (hk : ¬ k = 0) (HS : Hid (∀ W, Calls Tryd.prog 13 #[.agg #[.int .i64 k, .int .i64 0]] W fun e w' => e = .returned (.bool true) ∧ Below W.heap.size W w'))
    (HT : Hid (∀ W, Calls Tryd.prog 24 #[.agg #[.int .i64 n, .int .i64 s], .agg #[.int .i64 k, .int .i64 0]] W fun e w' => e = .returned (.tuple #[.agg #[.int .i64 t.n, .int .i64 t.s], .int .i64 t.e]) ∧ Below W.heap.size W w')) (ht : t.e = 3) :
    Calls Tryd.prog 8 #[.agg #[.int .i64 n, .int .i64 s], .agg #[.int .i64 n2, .int .i64 s2], .agg #[.int .i64 n3, .int .i64 s3], .int .i16 k] w fun e w' => e = .returned (.bool true) ∧ Below w.heap.size w w' := by
  have ba := ((Blk.new w 23 #[.int .i64 n, .int .i64 s]).alloc (.cells #[.int .i64 n2, .int .i64 s2] 23)).alloc (.cells #[.int .i64 n3, .int .i64 s3] 23)
  have bb := (Blk.new' (w.alloc (.cells #[.int .i64 n, .int .i64 s] 23)) 23 #[.int .i64 n2, .int .i64 s2] (n := w.heap.size + 1) (by simp)).alloc (.cells #[.int .i64 n3, .int .i64 s3] 23)
  have bc := Blk.new' ((w.alloc (.cells #[.int .i64 n, .int .i64 s] 23)).alloc (.cells #[.int .i64 n2, .int .i64 s2] 23)) 23 #[.int .i64 n3, .int .i64 s3] (n := w.heap.size + 1 + 1) (by simp)
  go_enter Tryd.func8, Tryd.ntmps8
  go_wp2_with fail
  refine (HX1.out _).mono ?_
  rintro e w1 ⟨rfl, hw1⟩
  replace ba := ba.step hw1
  replace bb := bb.step hw1
  replace bc := bc.step hw1
  replace ba := ba.alloc (.cells #[.int .i64 x.n, .int .i64 x.s] 23)
  replace bb := bb.alloc (.cells #[.int .i64 x.n, .int .i64 x.s] 23)
  replace bc := bc.alloc (.cells #[.int .i64 x.n, .int .i64 x.s] 23)
  have bx := Blk.new w1 23 #[.int .i64 x.n, .int .i64 x.s]
  have bb0 := bb.cell 0
  have bb1 := bb.cell 1
  have ba0 := ba.cell 0
  have ba1 := ba.cell 1
  simp at bb0 bb1 ba0 ba1
  go_wp2_with fail
  refine (HX2.out _).mono ?_
  rintro e w2 ⟨rfl, hw2⟩
  clear bb0 bb1 ba0 ba1
  replace ba := ba.step hw2
  replace bb := bb.step hw2
  replace bc := bc.step hw2
  replace bx := bx.step hw2
  replace ba := ba.alloc (.cells #[.int .i64 x.n, .int .i64 x.s] 23)
  replace bb := bb.alloc (.cells #[.int .i64 x.n, .int .i64 x.s] 23)
  replace bc := bc.alloc (.cells #[.int .i64 x.n, .int .i64 x.s] 23)
  replace bx := bx.alloc (.cells #[.int .i64 x.n, .int .i64 x.s] 23)
  have b_y := Blk.new w2 23 #[.int .i64 x.n, .int .i64 x.s]
  have ba0 := ba.cell 0
  have ba1 := ba.cell 1
  have bb0 := bb.cell 0
  have bb1 := bb.cell 1
  simp at ba0 ba1 bb0 bb1
  go_wp2_with fail
  refine (HP1.out _).mono ?_
  rintro e w3 ⟨rfl, hw3⟩
  clear ba0 ba1 bb0 bb1
  replace ba := ba.step hw3
  replace bb := bb.step hw3
  replace bc := bc.step hw3
  replace bx := bx.step hw3
  replace b_y := b_y.step hw3
  replace ba := ba.alloc (.cells #[.int .i64 p.n, .int .i64 p.s] 23)
  replace bb := bb.alloc (.cells #[.int .i64 p.n, .int .i64 p.s] 23)
  replace bc := bc.alloc (.cells #[.int .i64 p.n, .int .i64 p.s] 23)
  replace bx := bx.alloc (.cells #[.int .i64 p.n, .int .i64 p.s] 23)
  replace b_y := b_y.alloc (.cells #[.int .i64 p.n, .int .i64 p.s] 23)
  have bp := Blk.new w3 23 #[.int .i64 p.n, .int .i64 p.s]
  have bb0 := bb.cell 0
  have bb1 := bb.cell 1
  have ba0 := ba.cell 0
  have ba1 := ba.cell 1
  simp at bb0 bb1 ba0 ba1
  go_wp2_with fail
  refine (HP2.out _).mono ?_
  rintro e w4 ⟨rfl, hw4⟩
  clear bb0 bb1 ba0 ba1
  replace ba := ba.step hw4
  replace bb := bb.step hw4
  replace bc := bc.step hw4
  replace bx := bx.step hw4
  replace b_y := b_y.step hw4
  replace bp := bp.step hw4
  replace ba := ba.alloc (.cells #[.int .i64 p.n, .int .i64 p.s] 23)
  replace bb := bb.alloc (.cells #[.int .i64 p.n, .int .i64 p.s] 23)
  replace bc := bc.alloc (.cells #[.int .i64 p.n, .int .i64 p.s] 23)
  replace bx := bx.alloc (.cells #[.int .i64 p.n, .int .i64 p.s] 23)
  replace b_y := b_y.alloc (.cells #[.int .i64 p.n, .int .i64 p.s] 23)
  replace bp := bp.alloc (.cells #[.int .i64 p.n, .int .i64 p.s] 23)
  have bq := Blk.new w4 23 #[.int .i64 p.n, .int .i64 p.s]
  go_wp2_with fail
  refine (HW.out _ (by (repeat' (first | (with_reducible exact Below.refl _ _) | (with_reducible assumption) | (with_reducible refine balloc ?_ _) | (with_reducible refine Below.drew ?_) | (with_reducible refine bset ?_ ?_ _) | (with_reducible refine bstep ?_ (by with_reducible assumption)) | (with_reducible refine bturn ?_ (by with_reducible assumption) ?_) | go_size)))).mono ?_
  rintro e w5 ⟨rfl, hw5⟩
  replace ba := ba.step hw5
  replace bb := bb.step hw5
  replace bc := bc.step hw5
  replace bx := bx.step hw5
  replace b_y := b_y.step hw5
  replace bp := bp.step hw5
  replace bq := bq.step hw5
  have bx0 := bx.cell 0
  have bx1 := bx.cell 1
  have b_y0 := b_y.cell 0
  have b_y1 := b_y.cell 1
  have bp0 := bp.cell 0
  have bp1 := bp.cell 1
  have bq0 := bq.cell 0
  have bq1 := bq.cell 1
  simp at bx0 bx1 b_y0 b_y1 bp0 bp1 bq0 bq1
  have bc0 := bc.cell 0
  have bc1 := bc.cell 1
  have bb0 := bb.cell 0
  have bb1 := bb.cell 1
  simp at bc0 bc1 bb0 bb1
  go_wp2_with fail
  refine (HZ.out _).mono ?_
  rintro e w6 ⟨rfl, hw6⟩
  clear bx0 bx1 b_y0 b_y1 bp0 bp1 bq0 bq1 bc0 bc1 bb0 bb1
  replace ba := ba.step hw6
  replace bb := bb.step hw6
  replace bc := bc.step hw6
  replace bx := bx.step hw6
  replace b_y := b_y.step hw6
  replace bp := bp.step hw6
  replace bq := bq.step hw6
  replace ba := ba.alloc (.cells #[.int .i64 z.n, .int .i64 z.s] 23)
  replace bb := bb.alloc (.cells #[.int .i64 z.n, .int .i64 z.s] 23)
  replace bc := bc.alloc (.cells #[.int .i64 z.n, .int .i64 z.s] 23)
  replace bx := bx.alloc (.cells #[.int .i64 z.n, .int .i64 z.s] 23)
  replace b_y := b_y.alloc (.cells #[.int .i64 z.n, .int .i64 z.s] 23)
  replace bp := bp.alloc (.cells #[.int .i64 z.n, .int .i64 z.s] 23)
  replace bq := bq.alloc (.cells #[.int .i64 z.n, .int .i64 z.s] 23)
  have bz := Blk.new w6 23 #[.int .i64 z.n, .int .i64 z.s]
  clear b_y
  clear bp
  clear bq
  clear bb
  have ba0 := ba.cell 0
  have ba1 := ba.cell 1
  have bc0 := bc.cell 0
  have bc1 := bc.cell 1
  simp at ba0 ba1 bc0 bc1
  go_wp2_with fail
  refine (HC.out _).mono ?_
  rintro e w7 ⟨rfl, hw7⟩
  clear ba0 ba1 bc0 bc1
  replace ba := ba.step hw7
  replace bc := bc.step hw7
  replace bx := bx.step hw7
  replace bz := bz.step hw7
  have bx0 := bx.cell 0
  have bx1 := bx.cell 1
  have bz0 := bz.cell 0
  have bz1 := bz.cell 1
  simp at bx0 bx1 bz0 bz1
  go_wp2_with fail
  refine (HCx.out _).mono ?_
  rintro e w8 ⟨rfl, hw8⟩
  clear bx0 bx1 bz0 bz1
  replace ba := ba.step hw8
  replace bc := bc.step hw8
  replace bx := bx.step hw8
  replace bz := bz.step hw8
  have ba0 := ba.cell 0
  have ba1 := ba.cell 1
  simp at ba0 ba1
  go_wp2_with fail
  clear ba0 ba1
  replace ba := ba.alloc (.cells #[.int .i64 k, .int .i64 0] 23)
  replace bc := bc.alloc (.cells #[.int .i64 k, .int .i64 0] 23)
  replace bx := bx.alloc (.cells #[.int .i64 k, .int .i64 0] 23)
  replace bz := bz.alloc (.cells #[.int .i64 k, .int .i64 0] 23)
  have bk := Blk.new w8 23 #[.int .i64 k, .int .i64 0]
  refine (HS.out _).mono ?_
  rintro e w9 ⟨rfl, hw9⟩
  replace ba := ba.step hw9
  replace bc := bc.step hw9
  replace bx := bx.step hw9
  replace bz := bz.step hw9
  replace bk := bk.step hw9
  have ba0 := ba.cell 0
  have ba1 := ba.cell 1
  have bk0 := bk.cell 0
  have bk1 := bk.cell 1
  simp at ba0 ba1 bk0 bk1
  go_wp2_with fail
  refine (HT.out _).mono ?_
  rintro e w10 ⟨rfl, hw10⟩
  clear ba0 ba1 bk0 bk1
  replace ba := ba.step hw10
  replace bc := bc.step hw10
  replace bx := bx.step hw10
  replace bz := bz.step hw10
  replace bk := bk.step hw10
  replace ba := ba.alloc (.cells #[.int .i64 t.n, .int .i64 t.s] 23)
  replace bc := bc.alloc (.cells #[.int .i64 t.n, .int .i64 t.s] 23)
  replace bx := bx.alloc (.cells #[.int .i64 t.n, .int .i64 t.s] 23)
  replace bz := bz.alloc (.cells #[.int .i64 t.n, .int .i64 t.s] 23)
  replace bk := bk.alloc (.cells #[.int .i64 t.n, .int .i64 t.s] 23)
  have bt := Blk.new w10 23 #[.int .i64 t.n, .int .i64 t.s]
  go_wp2_with fail
  go_returns
  exact ⟨rfl, by (repeat' (first | (with_reducible exact Below.refl _ _) | (with_reducible assumption) | (with_reducible refine balloc ?_ _) | (with_reducible refine Below.drew ?_) | (with_reducible refine bset ?_ ?_ _) | (with_reducible refine bstep ?_ (by with_reducible assumption)) | (with_reducible refine bturn ?_ (by with_reducible assumption) ?_) | go_size))⟩

set_option maxHeartbeats 4000000 in
set_option maxRecDepth 100000 in
theorem laws_sum_back (n s n2 s2 n3 s3 k : Int) (w : World) (x p z t y : Res) (cm : Int) (HW : Hid (∀ W, Below w.heap.size w W → Calls Tryd.prog 11 #[] W fun e w' => e = .returned (.bool true) ∧ Below W.heap.size W w'))
    (HX1 : Hid (∀ W, Calls Tryd.prog 22 #[.agg #[.int .i64 n, .int .i64 s], .agg #[.int .i64 n2, .int .i64 s2]] W fun e w' => e = .returned (.tuple #[.agg #[.int .i64 x.n, .int .i64 x.s], .int .i64 x.e]) ∧ Below W.heap.size W w'))
    (HX2 : Hid (∀ W, Calls Tryd.prog 22 #[.agg #[.int .i64 n2, .int .i64 s2], .agg #[.int .i64 n, .int .i64 s]] W fun e w' => e = .returned (.tuple #[.agg #[.int .i64 x.n, .int .i64 x.s], .int .i64 x.e]) ∧ Below W.heap.size W w'))
    (HP1 : Hid (∀ W, Calls Tryd.prog 24 #[.agg #[.int .i64 n, .int .i64 s], .agg #[.int .i64 n2, .int .i64 s2]] W fun e w' => e = .returned (.tuple #[.agg #[.int .i64 p.n, .int .i64 p.s], .int .i64 p.e]) ∧ Below W.heap.size W w'))
    (HP2 : Hid (∀ W, Calls Tryd.prog 24 #[.agg #[.int .i64 n2, .int .i64 s2], .agg #[.int .i64 n, .int .i64 s]] W fun e w' => e = .returned (.tuple #[.agg #[.int .i64 p.n, .int .i64 p.s], .int .i64 p.e]) ∧ Below W.heap.size W w'))
    (hx : x.e = 0)
    (HZ : Hid (∀ W, Calls Tryd.prog 22 #[.agg #[.int .i64 n3, .int .i64 s3], .agg #[.int .i64 n2, .int .i64 s2]] W fun e w' => e = .returned (.tuple #[.agg #[.int .i64 z.n, .int .i64 z.s], .int .i64 z.e]) ∧ Below W.heap.size W w'))
    (HC : Hid (∀ W, Calls Tryd.prog 25 #[.agg #[.int .i64 n, .int .i64 s], .agg #[.int .i64 n3, .int .i64 s3]] W fun e w' => e = .returned (.tuple #[.int .i64 cm, .int .i64 0]) ∧ Below W.heap.size W w'))
    (hz : z.e = 0) (HCx : Hid (∀ W, Calls Tryd.prog 25 #[.agg #[.int .i64 x.n, .int .i64 x.s], .agg #[.int .i64 z.n, .int .i64 z.s]] W fun e w' => e = .returned (.tuple #[.int .i64 cm, .int .i64 0]) ∧ Below W.heap.size W w')) (k1 : -32768 ≤ k) (k2 : k ≤ 32767) (hk : ¬ k = 0) (HS : Hid (∀ W, Calls Tryd.prog 13 #[.agg #[.int .i64 k, .int .i64 0]] W fun e w' => e = .returned (.bool true) ∧ Below W.heap.size W w'))
    (HT : Hid (∀ W, Calls Tryd.prog 24 #[.agg #[.int .i64 n, .int .i64 s], .agg #[.int .i64 k, .int .i64 0]] W fun e w' => e = .returned (.tuple #[.agg #[.int .i64 t.n, .int .i64 t.s], .int .i64 t.e]) ∧ Below W.heap.size W w')) (ht : t.e = 0)
    (HB : Hid (∀ W, Calls Tryd.prog 14 #[.agg #[.int .i64 t.n, .int .i64 t.s], .agg #[.int .i64 k, .int .i64 0]] W fun e w' => e = .returned (.tuple #[.agg #[.int .i64 n, .int .i64 s], .int .i64 0]) ∧ Below W.heap.size W w')) :
    Calls Tryd.prog 8 #[.agg #[.int .i64 n, .int .i64 s], .agg #[.int .i64 n2, .int .i64 s2], .agg #[.int .i64 n3, .int .i64 s3], .int .i16 k] w fun e w' => e = .returned (.bool true) ∧ Below w.heap.size w w' := by
  have ba := ((Blk.new w 23 #[.int .i64 n, .int .i64 s]).alloc (.cells #[.int .i64 n2, .int .i64 s2] 23)).alloc (.cells #[.int .i64 n3, .int .i64 s3] 23)
  have bb := (Blk.new' (w.alloc (.cells #[.int .i64 n, .int .i64 s] 23)) 23 #[.int .i64 n2, .int .i64 s2] (n := w.heap.size + 1) (by simp)).alloc (.cells #[.int .i64 n3, .int .i64 s3] 23)
  have bc := Blk.new' ((w.alloc (.cells #[.int .i64 n, .int .i64 s] 23)).alloc (.cells #[.int .i64 n2, .int .i64 s2] 23)) 23 #[.int .i64 n3, .int .i64 s3] (n := w.heap.size + 1 + 1) (by simp)
  go_enter Tryd.func8, Tryd.ntmps8
  go_wp2_with fail
  refine (HX1.out _).mono ?_
  rintro e w1 ⟨rfl, hw1⟩
  replace ba := ba.step hw1
  replace bb := bb.step hw1
  replace bc := bc.step hw1
  replace ba := ba.alloc (.cells #[.int .i64 x.n, .int .i64 x.s] 23)
  replace bb := bb.alloc (.cells #[.int .i64 x.n, .int .i64 x.s] 23)
  replace bc := bc.alloc (.cells #[.int .i64 x.n, .int .i64 x.s] 23)
  have bx := Blk.new w1 23 #[.int .i64 x.n, .int .i64 x.s]
  have bb0 := bb.cell 0
  have bb1 := bb.cell 1
  have ba0 := ba.cell 0
  have ba1 := ba.cell 1
  simp at bb0 bb1 ba0 ba1
  go_wp2_with fail
  refine (HX2.out _).mono ?_
  rintro e w2 ⟨rfl, hw2⟩
  clear bb0 bb1 ba0 ba1
  replace ba := ba.step hw2
  replace bb := bb.step hw2
  replace bc := bc.step hw2
  replace bx := bx.step hw2
  replace ba := ba.alloc (.cells #[.int .i64 x.n, .int .i64 x.s] 23)
  replace bb := bb.alloc (.cells #[.int .i64 x.n, .int .i64 x.s] 23)
  replace bc := bc.alloc (.cells #[.int .i64 x.n, .int .i64 x.s] 23)
  replace bx := bx.alloc (.cells #[.int .i64 x.n, .int .i64 x.s] 23)
  have b_y := Blk.new w2 23 #[.int .i64 x.n, .int .i64 x.s]
  have ba0 := ba.cell 0
  have ba1 := ba.cell 1
  have bb0 := bb.cell 0
  have bb1 := bb.cell 1
  simp at ba0 ba1 bb0 bb1
  go_wp2_with fail
  refine (HP1.out _).mono ?_
  rintro e w3 ⟨rfl, hw3⟩
  clear ba0 ba1 bb0 bb1
  replace ba := ba.step hw3
  replace bb := bb.step hw3
  replace bc := bc.step hw3
  replace bx := bx.step hw3
  replace b_y := b_y.step hw3
  replace ba := ba.alloc (.cells #[.int .i64 p.n, .int .i64 p.s] 23)
  replace bb := bb.alloc (.cells #[.int .i64 p.n, .int .i64 p.s] 23)
  replace bc := bc.alloc (.cells #[.int .i64 p.n, .int .i64 p.s] 23)
  replace bx := bx.alloc (.cells #[.int .i64 p.n, .int .i64 p.s] 23)
  replace b_y := b_y.alloc (.cells #[.int .i64 p.n, .int .i64 p.s] 23)
  have bp := Blk.new w3 23 #[.int .i64 p.n, .int .i64 p.s]
  have bb0 := bb.cell 0
  have bb1 := bb.cell 1
  have ba0 := ba.cell 0
  have ba1 := ba.cell 1
  simp at bb0 bb1 ba0 ba1
  go_wp2_with fail
  refine (HP2.out _).mono ?_
  rintro e w4 ⟨rfl, hw4⟩
  clear bb0 bb1 ba0 ba1
  replace ba := ba.step hw4
  replace bb := bb.step hw4
  replace bc := bc.step hw4
  replace bx := bx.step hw4
  replace b_y := b_y.step hw4
  replace bp := bp.step hw4
  replace ba := ba.alloc (.cells #[.int .i64 p.n, .int .i64 p.s] 23)
  replace bb := bb.alloc (.cells #[.int .i64 p.n, .int .i64 p.s] 23)
  replace bc := bc.alloc (.cells #[.int .i64 p.n, .int .i64 p.s] 23)
  replace bx := bx.alloc (.cells #[.int .i64 p.n, .int .i64 p.s] 23)
  replace b_y := b_y.alloc (.cells #[.int .i64 p.n, .int .i64 p.s] 23)
  replace bp := bp.alloc (.cells #[.int .i64 p.n, .int .i64 p.s] 23)
  have bq := Blk.new w4 23 #[.int .i64 p.n, .int .i64 p.s]
  go_wp2_with fail
  refine (HW.out _ (by (repeat' (first | (with_reducible exact Below.refl _ _) | (with_reducible assumption) | (with_reducible refine balloc ?_ _) | (with_reducible refine Below.drew ?_) | (with_reducible refine bset ?_ ?_ _) | (with_reducible refine bstep ?_ (by with_reducible assumption)) | (with_reducible refine bturn ?_ (by with_reducible assumption) ?_) | go_size)))).mono ?_
  rintro e w5 ⟨rfl, hw5⟩
  replace ba := ba.step hw5
  replace bb := bb.step hw5
  replace bc := bc.step hw5
  replace bx := bx.step hw5
  replace b_y := b_y.step hw5
  replace bp := bp.step hw5
  replace bq := bq.step hw5
  have bx0 := bx.cell 0
  have bx1 := bx.cell 1
  have b_y0 := b_y.cell 0
  have b_y1 := b_y.cell 1
  have bp0 := bp.cell 0
  have bp1 := bp.cell 1
  have bq0 := bq.cell 0
  have bq1 := bq.cell 1
  simp at bx0 bx1 b_y0 b_y1 bp0 bp1 bq0 bq1
  have bc0 := bc.cell 0
  have bc1 := bc.cell 1
  have bb0 := bb.cell 0
  have bb1 := bb.cell 1
  simp at bc0 bc1 bb0 bb1
  go_wp2_with fail
  refine (HZ.out _).mono ?_
  rintro e w6 ⟨rfl, hw6⟩
  clear bx0 bx1 b_y0 b_y1 bp0 bp1 bq0 bq1 bc0 bc1 bb0 bb1
  replace ba := ba.step hw6
  replace bb := bb.step hw6
  replace bc := bc.step hw6
  replace bx := bx.step hw6
  replace b_y := b_y.step hw6
  replace bp := bp.step hw6
  replace bq := bq.step hw6
  replace ba := ba.alloc (.cells #[.int .i64 z.n, .int .i64 z.s] 23)
  replace bb := bb.alloc (.cells #[.int .i64 z.n, .int .i64 z.s] 23)
  replace bc := bc.alloc (.cells #[.int .i64 z.n, .int .i64 z.s] 23)
  replace bx := bx.alloc (.cells #[.int .i64 z.n, .int .i64 z.s] 23)
  replace b_y := b_y.alloc (.cells #[.int .i64 z.n, .int .i64 z.s] 23)
  replace bp := bp.alloc (.cells #[.int .i64 z.n, .int .i64 z.s] 23)
  replace bq := bq.alloc (.cells #[.int .i64 z.n, .int .i64 z.s] 23)
  have bz := Blk.new w6 23 #[.int .i64 z.n, .int .i64 z.s]
  clear b_y
  clear bp
  clear bq
  clear bb
  have ba0 := ba.cell 0
  have ba1 := ba.cell 1
  have bc0 := bc.cell 0
  have bc1 := bc.cell 1
  simp at ba0 ba1 bc0 bc1
  go_wp2_with fail
  refine (HC.out _).mono ?_
  rintro e w7 ⟨rfl, hw7⟩
  clear ba0 ba1 bc0 bc1
  replace ba := ba.step hw7
  replace bc := bc.step hw7
  replace bx := bx.step hw7
  replace bz := bz.step hw7
  have bx0 := bx.cell 0
  have bx1 := bx.cell 1
  have bz0 := bz.cell 0
  have bz1 := bz.cell 1
  simp at bx0 bx1 bz0 bz1
  go_wp2_with fail
  refine (HCx.out _).mono ?_
  rintro e w8 ⟨rfl, hw8⟩
  clear bx0 bx1 bz0 bz1
  replace ba := ba.step hw8
  replace bc := bc.step hw8
  replace bx := bx.step hw8
  replace bz := bz.step hw8
  have ba0 := ba.cell 0
  have ba1 := ba.cell 1
  simp at ba0 ba1
  go_wp2_with fail
  clear ba0 ba1
  replace ba := ba.alloc (.cells #[.int .i64 k, .int .i64 0] 23)
  replace bc := bc.alloc (.cells #[.int .i64 k, .int .i64 0] 23)
  replace bx := bx.alloc (.cells #[.int .i64 k, .int .i64 0] 23)
  replace bz := bz.alloc (.cells #[.int .i64 k, .int .i64 0] 23)
  have bk := Blk.new w8 23 #[.int .i64 k, .int .i64 0]
  refine (HS.out _).mono ?_
  rintro e w9 ⟨rfl, hw9⟩
  replace ba := ba.step hw9
  replace bc := bc.step hw9
  replace bx := bx.step hw9
  replace bz := bz.step hw9
  replace bk := bk.step hw9
  have ba0 := ba.cell 0
  have ba1 := ba.cell 1
  have bk0 := bk.cell 0
  have bk1 := bk.cell 1
  simp at ba0 ba1 bk0 bk1
  go_wp2_with fail
  refine (HT.out _).mono ?_
  rintro e w10 ⟨rfl, hw10⟩
  clear ba0 ba1 bk0 bk1
  replace ba := ba.step hw10
  replace bc := bc.step hw10
  replace bx := bx.step hw10
  replace bz := bz.step hw10
  replace bk := bk.step hw10
  replace ba := ba.alloc (.cells #[.int .i64 t.n, .int .i64 t.s] 23)
  replace bc := bc.alloc (.cells #[.int .i64 t.n, .int .i64 t.s] 23)
  replace bx := bx.alloc (.cells #[.int .i64 t.n, .int .i64 t.s] 23)
  replace bz := bz.alloc (.cells #[.int .i64 t.n, .int .i64 t.s] 23)
  replace bk := bk.alloc (.cells #[.int .i64 t.n, .int .i64 t.s] 23)
  have bt := Blk.new w10 23 #[.int .i64 t.n, .int .i64 t.s]
  have bt0 := bt.cell 0
  have bt1 := bt.cell 1
  have bk0 := bk.cell 0
  have bk1 := bk.cell 1
  simp at bt0 bt1 bk0 bk1
  go_wp2_with fail
  refine (HB.out _).mono ?_
  rintro e w11 ⟨rfl, hw11⟩
  clear bt0 bt1 bk0 bk1
  replace ba := ba.step hw11
  replace bc := bc.step hw11
  replace bx := bx.step hw11
  replace bz := bz.step hw11
  replace bk := bk.step hw11
  replace bt := bt.step hw11
  replace ba := ba.alloc (.cells #[.int .i64 n, .int .i64 s] 23)
  replace bc := bc.alloc (.cells #[.int .i64 n, .int .i64 s] 23)
  replace bx := bx.alloc (.cells #[.int .i64 n, .int .i64 s] 23)
  replace bz := bz.alloc (.cells #[.int .i64 n, .int .i64 s] 23)
  replace bk := bk.alloc (.cells #[.int .i64 n, .int .i64 s] 23)
  replace bt := bt.alloc (.cells #[.int .i64 n, .int .i64 s] 23)
  have bv := Blk.new w11 23 #[.int .i64 n, .int .i64 s]
  have bv0 := bv.cell 0
  have bv1 := bv.cell 1
  have ba0 := ba.cell 0
  have ba1 := ba.cell 1
  simp at bv0 bv1 ba0 ba1
  go_wp2_with fail
  go_returns
  exact ⟨rfl, by (repeat' (first | (with_reducible exact Below.refl _ _) | (with_reducible assumption) | (with_reducible refine balloc ?_ _) | (with_reducible refine Below.drew ?_) | (with_reducible refine bset ?_ ?_ _) | (with_reducible refine bstep ?_ (by with_reducible assumption)) | (with_reducible refine bturn ?_ (by with_reducible assumption) ?_) | go_size))⟩

set_option maxHeartbeats 4000000 in
set_option maxRecDepth 100000 in
theorem laws_nosum_zero (n s n2 s2 n3 s3 k : Int) (w : World) (x p z t y : Res) (cm : Int) (HW : Hid (∀ W, Below w.heap.size w W → Calls Tryd.prog 11 #[] W fun e w' => e = .returned (.bool true) ∧ Below W.heap.size W w'))
    (HX1 : Hid (∀ W, Calls Tryd.prog 22 #[.agg #[.int .i64 n, .int .i64 s], .agg #[.int .i64 n2, .int .i64 s2]] W fun e w' => e = .returned (.tuple #[.agg #[.int .i64 x.n, .int .i64 x.s], .int .i64 x.e]) ∧ Below W.heap.size W w'))
    (HX2 : Hid (∀ W, Calls Tryd.prog 22 #[.agg #[.int .i64 n2, .int .i64 s2], .agg #[.int .i64 n, .int .i64 s]] W fun e w' => e = .returned (.tuple #[.agg #[.int .i64 x.n, .int .i64 x.s], .int .i64 x.e]) ∧ Below W.heap.size W w'))
    (HP1 : Hid (∀ W, Calls Tryd.prog 24 #[.agg #[.int .i64 n, .int .i64 s], .agg #[.int .i64 n2, .int .i64 s2]] W fun e w' => e = .returned (.tuple #[.agg #[.int .i64 p.n, .int .i64 p.s], .int .i64 p.e]) ∧ Below W.heap.size W w'))
    (HP2 : Hid (∀ W, Calls Tryd.prog 24 #[.agg #[.int .i64 n2, .int .i64 s2], .agg #[.int .i64 n, .int .i64 s]] W fun e w' => e = .returned (.tuple #[.agg #[.int .i64 p.n, .int .i64 p.s], .int .i64 p.e]) ∧ Below W.heap.size W w'))
    (cz : Int) (hx : x.e = 0)
    (HZ : Hid (∀ W, Calls Tryd.prog 22 #[.agg #[.int .i64 n3, .int .i64 s3], .agg #[.int .i64 n2, .int .i64 s2]] W fun e w' => e = .returned (.tuple #[.agg #[.int .i64 z.n, .int .i64 z.s], .int .i64 z.e]) ∧ Below W.heap.size W w'))
    (HC : Hid (∀ W, Calls Tryd.prog 25 #[.agg #[.int .i64 n, .int .i64 s], .agg #[.int .i64 n3, .int .i64 s3]] W fun e w' => e = .returned (.tuple #[.int .i64 cm, .int .i64 cz]) ∧ Below W.heap.size W w'))
    (hz : (z.e == 0) = false) (hk : k = 0) :
    Calls Tryd.prog 8 #[.agg #[.int .i64 n, .int .i64 s], .agg #[.int .i64 n2, .int .i64 s2], .agg #[.int .i64 n3, .int .i64 s3], .int .i16 k] w fun e w' => e = .returned (.bool true) ∧ Below w.heap.size w w' := by
  subst hk
  have ba := ((Blk.new w 23 #[.int .i64 n, .int .i64 s]).alloc (.cells #[.int .i64 n2, .int .i64 s2] 23)).alloc (.cells #[.int .i64 n3, .int .i64 s3] 23)
  have bb := (Blk.new' (w.alloc (.cells #[.int .i64 n, .int .i64 s] 23)) 23 #[.int .i64 n2, .int .i64 s2] (n := w.heap.size + 1) (by simp)).alloc (.cells #[.int .i64 n3, .int .i64 s3] 23)
  have bc := Blk.new' ((w.alloc (.cells #[.int .i64 n, .int .i64 s] 23)).alloc (.cells #[.int .i64 n2, .int .i64 s2] 23)) 23 #[.int .i64 n3, .int .i64 s3] (n := w.heap.size + 1 + 1) (by simp)
  go_enter Tryd.func8, Tryd.ntmps8
  go_wp2_with fail
  refine (HX1.out _).mono ?_
  rintro e w1 ⟨rfl, hw1⟩
  replace ba := ba.step hw1
  replace bb := bb.step hw1
  replace bc := bc.step hw1
  replace ba := ba.alloc (.cells #[.int .i64 x.n, .int .i64 x.s] 23)
  replace bb := bb.alloc (.cells #[.int .i64 x.n, .int .i64 x.s] 23)
  replace bc := bc.alloc (.cells #[.int .i64 x.n, .int .i64 x.s] 23)
  have bx := Blk.new w1 23 #[.int .i64 x.n, .int .i64 x.s]
  have bb0 := bb.cell 0
  have bb1 := bb.cell 1
  have ba0 := ba.cell 0
  have ba1 := ba.cell 1
  simp at bb0 bb1 ba0 ba1
  go_wp2_with fail
  refine (HX2.out _).mono ?_
  rintro e w2 ⟨rfl, hw2⟩
  clear bb0 bb1 ba0 ba1
  replace ba := ba.step hw2
  replace bb := bb.step hw2
  replace bc := bc.step hw2
  replace bx := bx.step hw2
  replace ba := ba.alloc (.cells #[.int .i64 x.n, .int .i64 x.s] 23)
  replace bb := bb.alloc (.cells #[.int .i64 x.n, .int .i64 x.s] 23)
  replace bc := bc.alloc (.cells #[.int .i64 x.n, .int .i64 x.s] 23)
  replace bx := bx.alloc (.cells #[.int .i64 x.n, .int .i64 x.s] 23)
  have b_y := Blk.new w2 23 #[.int .i64 x.n, .int .i64 x.s]
  have ba0 := ba.cell 0
  have ba1 := ba.cell 1
  have bb0 := bb.cell 0
  have bb1 := bb.cell 1
  simp at ba0 ba1 bb0 bb1
  go_wp2_with fail
  refine (HP1.out _).mono ?_
  rintro e w3 ⟨rfl, hw3⟩
  clear ba0 ba1 bb0 bb1
  replace ba := ba.step hw3
  replace bb := bb.step hw3
  replace bc := bc.step hw3
  replace bx := bx.step hw3
  replace b_y := b_y.step hw3
  replace ba := ba.alloc (.cells #[.int .i64 p.n, .int .i64 p.s] 23)
  replace bb := bb.alloc (.cells #[.int .i64 p.n, .int .i64 p.s] 23)
  replace bc := bc.alloc (.cells #[.int .i64 p.n, .int .i64 p.s] 23)
  replace bx := bx.alloc (.cells #[.int .i64 p.n, .int .i64 p.s] 23)
  replace b_y := b_y.alloc (.cells #[.int .i64 p.n, .int .i64 p.s] 23)
  have bp := Blk.new w3 23 #[.int .i64 p.n, .int .i64 p.s]
  have bb0 := bb.cell 0
  have bb1 := bb.cell 1
  have ba0 := ba.cell 0
  have ba1 := ba.cell 1
  simp at bb0 bb1 ba0 ba1
  go_wp2_with fail
  refine (HP2.out _).mono ?_
  rintro e w4 ⟨rfl, hw4⟩
  clear bb0 bb1 ba0 ba1
  replace ba := ba.step hw4
  replace bb := bb.step hw4
  replace bc := bc.step hw4
  replace bx := bx.step hw4
  replace b_y := b_y.step hw4
  replace bp := bp.step hw4
  replace ba := ba.alloc (.cells #[.int .i64 p.n, .int .i64 p.s] 23)
  replace bb := bb.alloc (.cells #[.int .i64 p.n, .int .i64 p.s] 23)
  replace bc := bc.alloc (.cells #[.int .i64 p.n, .int .i64 p.s] 23)
  replace bx := bx.alloc (.cells #[.int .i64 p.n, .int .i64 p.s] 23)
  replace b_y := b_y.alloc (.cells #[.int .i64 p.n, .int .i64 p.s] 23)
  replace bp := bp.alloc (.cells #[.int .i64 p.n, .int .i64 p.s] 23)
  have bq := Blk.new w4 23 #[.int .i64 p.n, .int .i64 p.s]
  go_wp2_with fail
  refine (HW.out _ (by (repeat' (first | (with_reducible exact Below.refl _ _) | (with_reducible assumption) | (with_reducible refine balloc ?_ _) | (with_reducible refine Below.drew ?_) | (with_reducible refine bset ?_ ?_ _) | (with_reducible refine bstep ?_ (by with_reducible assumption)) | (with_reducible refine bturn ?_ (by with_reducible assumption) ?_) | go_size)))).mono ?_
  rintro e w5 ⟨rfl, hw5⟩
  replace ba := ba.step hw5
  replace bb := bb.step hw5
  replace bc := bc.step hw5
  replace bx := bx.step hw5
  replace b_y := b_y.step hw5
  replace bp := bp.step hw5
  replace bq := bq.step hw5
  have bx0 := bx.cell 0
  have bx1 := bx.cell 1
  have b_y0 := b_y.cell 0
  have b_y1 := b_y.cell 1
  have bp0 := bp.cell 0
  have bp1 := bp.cell 1
  have bq0 := bq.cell 0
  have bq1 := bq.cell 1
  simp at bx0 bx1 b_y0 b_y1 bp0 bp1 bq0 bq1
  have bc0 := bc.cell 0
  have bc1 := bc.cell 1
  have bb0 := bb.cell 0
  have bb1 := bb.cell 1
  simp at bc0 bc1 bb0 bb1
  go_wp2_with fail
  refine (HZ.out _).mono ?_
  rintro e w6 ⟨rfl, hw6⟩
  clear bx0 bx1 b_y0 b_y1 bp0 bp1 bq0 bq1 bc0 bc1 bb0 bb1
  replace ba := ba.step hw6
  replace bb := bb.step hw6
  replace bc := bc.step hw6
  replace bx := bx.step hw6
  replace b_y := b_y.step hw6
  replace bp := bp.step hw6
  replace bq := bq.step hw6
  replace ba := ba.alloc (.cells #[.int .i64 z.n, .int .i64 z.s] 23)
  replace bb := bb.alloc (.cells #[.int .i64 z.n, .int .i64 z.s] 23)
  replace bc := bc.alloc (.cells #[.int .i64 z.n, .int .i64 z.s] 23)
  replace bx := bx.alloc (.cells #[.int .i64 z.n, .int .i64 z.s] 23)
  replace b_y := b_y.alloc (.cells #[.int .i64 z.n, .int .i64 z.s] 23)
  replace bp := bp.alloc (.cells #[.int .i64 z.n, .int .i64 z.s] 23)
  replace bq := bq.alloc (.cells #[.int .i64 z.n, .int .i64 z.s] 23)
  have bz := Blk.new w6 23 #[.int .i64 z.n, .int .i64 z.s]
  clear b_y
  clear bp
  clear bq
  clear bb
  have ba0 := ba.cell 0
  have ba1 := ba.cell 1
  have bc0 := bc.cell 0
  have bc1 := bc.cell 1
  simp at ba0 ba1 bc0 bc1
  go_wp2_with fail
  refine (HC.out _).mono ?_
  rintro e w7 ⟨rfl, hw7⟩
  clear ba0 ba1 bc0 bc1
  replace ba := ba.step hw7
  replace bc := bc.step hw7
  replace bx := bx.step hw7
  replace bz := bz.step hw7
  have ba0 := ba.cell 0
  have ba1 := ba.cell 1
  simp at ba0 ba1
  go_wp2_with fail
  go_returns
  exact ⟨rfl, by (repeat' (first | (with_reducible exact Below.refl _ _) | (with_reducible assumption) | (with_reducible refine balloc ?_ _) | (with_reducible refine Below.drew ?_) | (with_reducible refine bset ?_ ?_ _) | (with_reducible refine bstep ?_ (by with_reducible assumption)) | (with_reducible refine bturn ?_ (by with_reducible assumption) ?_) | go_size))⟩

set_option maxHeartbeats 4000000 in
set_option maxRecDepth 100000 in
theorem laws_nosum_far (n s n2 s2 n3 s3 k : Int) (w : World) (x p z t y : Res) (cm : Int) (HW : Hid (∀ W, Below w.heap.size w W → Calls Tryd.prog 11 #[] W fun e w' => e = .returned (.bool true) ∧ Below W.heap.size W w'))
    (HX1 : Hid (∀ W, Calls Tryd.prog 22 #[.agg #[.int .i64 n, .int .i64 s], .agg #[.int .i64 n2, .int .i64 s2]] W fun e w' => e = .returned (.tuple #[.agg #[.int .i64 x.n, .int .i64 x.s], .int .i64 x.e]) ∧ Below W.heap.size W w'))
    (HX2 : Hid (∀ W, Calls Tryd.prog 22 #[.agg #[.int .i64 n2, .int .i64 s2], .agg #[.int .i64 n, .int .i64 s]] W fun e w' => e = .returned (.tuple #[.agg #[.int .i64 x.n, .int .i64 x.s], .int .i64 x.e]) ∧ Below W.heap.size W w'))
    (HP1 : Hid (∀ W, Calls Tryd.prog 24 #[.agg #[.int .i64 n, .int .i64 s], .agg #[.int .i64 n2, .int .i64 s2]] W fun e w' => e = .returned (.tuple #[.agg #[.int .i64 p.n, .int .i64 p.s], .int .i64 p.e]) ∧ Below W.heap.size W w'))
    (HP2 : Hid (∀ W, Calls Tryd.prog 24 #[.agg #[.int .i64 n2, .int .i64 s2], .agg #[.int .i64 n, .int .i64 s]] W fun e w' => e = .returned (.tuple #[.agg #[.int .i64 p.n, .int .i64 p.s], .int .i64 p.e]) ∧ Below W.heap.size W w'))
    (cz : Int) (hx : x.e = 0)
    (HZ : Hid (∀ W, Calls Tryd.prog 22 #[.agg #[.int .i64 n3, .int .i64 s3], .agg #[.int .i64 n2, .int .i64 s2]] W fun e w' => e = .returned (.tuple #[.agg #[.int .i64 z.n, .int .i64 z.s], .int .i64 z.e]) ∧ Below W.heap.size W w'))
    (HC : Hid (∀ W, Calls Tryd.prog 25 #[.agg #[.int .i64 n, .int .i64 s], .agg #[.int .i64 n3, .int .i64 s3]] W fun e w' => e = .returned (.tuple #[.int .i64 cm, .int .i64 cz]) ∧ Below W.heap.size W w'))
    (hz : (z.e == 0) = false) (k1 : -32768 ≤ k) (k2 : k ≤ 32767) (hk : ¬ k = 0) (HS : Hid (∀ W, Calls Tryd.prog 13 #[.agg #[.int .i64 k, .int .i64 0]] W fun e w' => e = .returned (.bool true) ∧ Below W.heap.size W w'))
    (HT : Hid (∀ W, Calls Tryd.prog 24 #[.agg #[.int .i64 n, .int .i64 s], .agg #[.int .i64 k, .int .i64 0]] W fun e w' => e = .returned (.tuple #[.agg #[.int .i64 t.n, .int .i64 t.s], .int .i64 t.e]) ∧ Below W.heap.size W w')) (ht : t.e = 3) :
    Calls Tryd.prog 8 #[.agg #[.int .i64 n, .int .i64 s], .agg #[.int .i64 n2, .int .i64 s2], .agg #[.int .i64 n3, .int .i64 s3], .int .i16 k] w fun e w' => e = .returned (.bool true) ∧ Below w.heap.size w w' := by
  have ba := ((Blk.new w 23 #[.int .i64 n, .int .i64 s]).alloc (.cells #[.int .i64 n2, .int .i64 s2] 23)).alloc (.cells #[.int .i64 n3, .int .i64 s3] 23)
  have bb := (Blk.new' (w.alloc (.cells #[.int .i64 n, .int .i64 s] 23)) 23 #[.int .i64 n2, .int .i64 s2] (n := w.heap.size + 1) (by simp)).alloc (.cells #[.int .i64 n3, .int .i64 s3] 23)
  have bc := Blk.new' ((w.alloc (.cells #[.int .i64 n, .int .i64 s] 23)).alloc (.cells #[.int .i64 n2, .int .i64 s2] 23)) 23 #[.int .i64 n3, .int .i64 s3] (n := w.heap.size + 1 + 1) (by simp)
  go_enter Tryd.func8, Tryd.ntmps8
  go_wp2_with fail
  refine (HX1.out _).mono ?_
  rintro e w1 ⟨rfl, hw1⟩
  replace ba := ba.step hw1
  replace bb := bb.step hw1
  replace bc := bc.step hw1
  replace ba := ba.alloc (.cells #[.int .i64 x.n, .int .i64 x.s] 23)
  replace bb := bb.alloc (.cells #[.int .i64 x.n, .int .i64 x.s] 23)
  replace bc := bc.alloc (.cells #[.int .i64 x.n, .int .i64 x.s] 23)
  have bx := Blk.new w1 23 #[.int .i64 x.n, .int .i64 x.s]
  have bb0 := bb.cell 0
  have bb1 := bb.cell 1
  have ba0 := ba.cell 0
  have ba1 := ba.cell 1
  simp at bb0 bb1 ba0 ba1
  go_wp2_with fail
  refine (HX2.out _).mono ?_
  rintro e w2 ⟨rfl, hw2⟩
  clear bb0 bb1 ba0 ba1
  replace ba := ba.step hw2
  replace bb := bb.step hw2
  replace bc := bc.step hw2
  replace bx := bx.step hw2
  replace ba := ba.alloc (.cells #[.int .i64 x.n, .int .i64 x.s] 23)
  replace bb := bb.alloc (.cells #[.int .i64 x.n, .int .i64 x.s] 23)
  replace bc := bc.alloc (.cells #[.int .i64 x.n, .int .i64 x.s] 23)
  replace bx := bx.alloc (.cells #[.int .i64 x.n, .int .i64 x.s] 23)
  have b_y := Blk.new w2 23 #[.int .i64 x.n, .int .i64 x.s]
  have ba0 := ba.cell 0
  have ba1 := ba.cell 1
  have bb0 := bb.cell 0
  have bb1 := bb.cell 1
  simp at ba0 ba1 bb0 bb1
  go_wp2_with fail
  refine (HP1.out _).mono ?_
  rintro e w3 ⟨rfl, hw3⟩
  clear ba0 ba1 bb0 bb1
  replace ba := ba.step hw3
  replace bb := bb.step hw3
  replace bc := bc.step hw3
  replace bx := bx.step hw3
  replace b_y := b_y.step hw3
  replace ba := ba.alloc (.cells #[.int .i64 p.n, .int .i64 p.s] 23)
  replace bb := bb.alloc (.cells #[.int .i64 p.n, .int .i64 p.s] 23)
  replace bc := bc.alloc (.cells #[.int .i64 p.n, .int .i64 p.s] 23)
  replace bx := bx.alloc (.cells #[.int .i64 p.n, .int .i64 p.s] 23)
  replace b_y := b_y.alloc (.cells #[.int .i64 p.n, .int .i64 p.s] 23)
  have bp := Blk.new w3 23 #[.int .i64 p.n, .int .i64 p.s]
  have bb0 := bb.cell 0
  have bb1 := bb.cell 1
  have ba0 := ba.cell 0
  have ba1 := ba.cell 1
  simp at bb0 bb1 ba0 ba1
  go_wp2_with fail
  refine (HP2.out _).mono ?_
  rintro e w4 ⟨rfl, hw4⟩
  clear bb0 bb1 ba0 ba1
  replace ba := ba.step hw4
  replace bb := bb.step hw4
  replace bc := bc.step hw4
  replace bx := bx.step hw4
  replace b_y := b_y.step hw4
  replace bp := bp.step hw4
  replace ba := ba.alloc (.cells #[.int .i64 p.n, .int .i64 p.s] 23)
  replace bb := bb.alloc (.cells #[.int .i64 p.n, .int .i64 p.s] 23)
  replace bc := bc.alloc (.cells #[.int .i64 p.n, .int .i64 p.s] 23)
  replace bx := bx.alloc (.cells #[.int .i64 p.n, .int .i64 p.s] 23)
  replace b_y := b_y.alloc (.cells #[.int .i64 p.n, .int .i64 p.s] 23)
  replace bp := bp.alloc (.cells #[.int .i64 p.n, .int .i64 p.s] 23)
  have bq := Blk.new w4 23 #[.int .i64 p.n, .int .i64 p.s]
  go_wp2_with fail
  refine (HW.out _ (by (repeat' (first | (with_reducible exact Below.refl _ _) | (with_reducible assumption) | (with_reducible refine balloc ?_ _) | (with_reducible refine Below.drew ?_) | (with_reducible refine bset ?_ ?_ _) | (with_reducible refine bstep ?_ (by with_reducible assumption)) | (with_reducible refine bturn ?_ (by with_reducible assumption) ?_) | go_size)))).mono ?_
  rintro e w5 ⟨rfl, hw5⟩
  replace ba := ba.step hw5
  replace bb := bb.step hw5
  replace bc := bc.step hw5
  replace bx := bx.step hw5
  replace b_y := b_y.step hw5
  replace bp := bp.step hw5
  replace bq := bq.step hw5
  have bx0 := bx.cell 0
  have bx1 := bx.cell 1
  have b_y0 := b_y.cell 0
  have b_y1 := b_y.cell 1
  have bp0 := bp.cell 0
  have bp1 := bp.cell 1
  have bq0 := bq.cell 0
  have bq1 := bq.cell 1
  simp at bx0 bx1 b_y0 b_y1 bp0 bp1 bq0 bq1
  have bc0 := bc.cell 0
  have bc1 := bc.cell 1
  have bb0 := bb.cell 0
  have bb1 := bb.cell 1
  simp at bc0 bc1 bb0 bb1
  go_wp2_with fail
  refine (HZ.out _).mono ?_
  rintro e w6 ⟨rfl, hw6⟩
  clear bx0 bx1 b_y0 b_y1 bp0 bp1 bq0 bq1 bc0 bc1 bb0 bb1
  replace ba := ba.step hw6
  replace bb := bb.step hw6
  replace bc := bc.step hw6
  replace bx := bx.step hw6
  replace b_y := b_y.step hw6
  replace bp := bp.step hw6
  replace bq := bq.step hw6
  replace ba := ba.alloc (.cells #[.int .i64 z.n, .int .i64 z.s] 23)
  replace bb := bb.alloc (.cells #[.int .i64 z.n, .int .i64 z.s] 23)
  replace bc := bc.alloc (.cells #[.int .i64 z.n, .int .i64 z.s] 23)
  replace bx := bx.alloc (.cells #[.int .i64 z.n, .int .i64 z.s] 23)
  replace b_y := b_y.alloc (.cells #[.int .i64 z.n, .int .i64 z.s] 23)
  replace bp := bp.alloc (.cells #[.int .i64 z.n, .int .i64 z.s] 23)
  replace bq := bq.alloc (.cells #[.int .i64 z.n, .int .i64 z.s] 23)
  have bz := Blk.new w6 23 #[.int .i64 z.n, .int .i64 z.s]
  clear b_y
  clear bp
  clear bq
  clear bb
  have ba0 := ba.cell 0
  have ba1 := ba.cell 1
  have bc0 := bc.cell 0
  have bc1 := bc.cell 1
  simp at ba0 ba1 bc0 bc1
  go_wp2_with fail
  refine (HC.out _).mono ?_
  rintro e w7 ⟨rfl, hw7⟩
  clear ba0 ba1 bc0 bc1
  replace ba := ba.step hw7
  replace bc := bc.step hw7
  replace bx := bx.step hw7
  replace bz := bz.step hw7
  have ba0 := ba.cell 0
  have ba1 := ba.cell 1
  simp at ba0 ba1
  go_wp2_with fail
  clear ba0 ba1
  replace ba := ba.alloc (.cells #[.int .i64 k, .int .i64 0] 23)
  replace bc := bc.alloc (.cells #[.int .i64 k, .int .i64 0] 23)
  replace bx := bx.alloc (.cells #[.int .i64 k, .int .i64 0] 23)
  replace bz := bz.alloc (.cells #[.int .i64 k, .int .i64 0] 23)
  have bk := Blk.new w7 23 #[.int .i64 k, .int .i64 0]
  refine (HS.out _).mono ?_
  rintro e w8 ⟨rfl, hw8⟩
  replace ba := ba.step hw8
  replace bc := bc.step hw8
  replace bx := bx.step hw8
  replace bz := bz.step hw8
  replace bk := bk.step hw8
  have ba0 := ba.cell 0
  have ba1 := ba.cell 1
  have bk0 := bk.cell 0
  have bk1 := bk.cell 1
  simp at ba0 ba1 bk0 bk1
  go_wp2_with fail
  refine (HT.out _).mono ?_
  rintro e w9 ⟨rfl, hw9⟩
  clear ba0 ba1 bk0 bk1
  replace ba := ba.step hw9
  replace bc := bc.step hw9
  replace bx := bx.step hw9
  replace bz := bz.step hw9
  replace bk := bk.step hw9
  replace ba := ba.alloc (.cells #[.int .i64 t.n, .int .i64 t.s] 23)
  replace bc := bc.alloc (.cells #[.int .i64 t.n, .int .i64 t.s] 23)
  replace bx := bx.alloc (.cells #[.int .i64 t.n, .int .i64 t.s] 23)
  replace bz := bz.alloc (.cells #[.int .i64 t.n, .int .i64 t.s] 23)
  replace bk := bk.alloc (.cells #[.int .i64 t.n, .int .i64 t.s] 23)
  have bt := Blk.new w9 23 #[.int .i64 t.n, .int .i64 t.s]
  go_wp2_with fail
  go_returns
  exact ⟨rfl, by (repeat' (first | (with_reducible exact Below.refl _ _) | (with_reducible assumption) | (with_reducible refine balloc ?_ _) | (with_reducible refine Below.drew ?_) | (with_reducible refine bset ?_ ?_ _) | (with_reducible refine bstep ?_ (by with_reducible assumption)) | (with_reducible refine bturn ?_ (by with_reducible assumption) ?_) | go_size))⟩

set_option maxHeartbeats 4000000 in
set_option maxRecDepth 100000 in
theorem laws_nosum_back (n s n2 s2 n3 s3 k : Int) (w : World) (x p z t y : Res) (cm : Int) (HW : Hid (∀ W, Below w.heap.size w W → Calls Tryd.prog 11 #[] W fun e w' => e = .returned (.bool true) ∧ Below W.heap.size W w'))
    (HX1 : Hid (∀ W, Calls Tryd.prog 22 #[.agg #[.int .i64 n, .int .i64 s], .agg #[.int .i64 n2, .int .i64 s2]] W fun e w' => e = .returned (.tuple #[.agg #[.int .i64 x.n, .int .i64 x.s], .int .i64 x.e]) ∧ Below W.heap.size W w'))
    (HX2 : Hid (∀ W, Calls Tryd.prog 22 #[.agg #[.int .i64 n2, .int .i64 s2], .agg #[.int .i64 n, .int .i64 s]] W fun e w' => e = .returned (.tuple #[.agg #[.int .i64 x.n, .int .i64 x.s], .int .i64 x.e]) ∧ Below W.heap.size W w'))
    (HP1 : Hid (∀ W, Calls Tryd.prog 24 #[.agg #[.int .i64 n, .int .i64 s], .agg #[.int .i64 n2, .int .i64 s2]] W fun e w' => e = .returned (.tuple #[.agg #[.int .i64 p.n, .int .i64 p.s], .int .i64 p.e]) ∧ Below W.heap.size W w'))
    (HP2 : Hid (∀ W, Calls Tryd.prog 24 #[.agg #[.int .i64 n2, .int .i64 s2], .agg #[.int .i64 n, .int .i64 s]] W fun e w' => e = .returned (.tuple #[.agg #[.int .i64 p.n, .int .i64 p.s], .int .i64 p.e]) ∧ Below W.heap.size W w'))
    (cz : Int) (hx : x.e = 0)
    (HZ : Hid (∀ W, Calls Tryd.prog 22 #[.agg #[.int .i64 n3, .int .i64 s3], .agg #[.int .i64 n2, .int .i64 s2]] W fun e w' => e = .returned (.tuple #[.agg #[.int .i64 z.n, .int .i64 z.s], .int .i64 z.e]) ∧ Below W.heap.size W w'))
    (HC : Hid (∀ W, Calls Tryd.prog 25 #[.agg #[.int .i64 n, .int .i64 s], .agg #[.int .i64 n3, .int .i64 s3]] W fun e w' => e = .returned (.tuple #[.int .i64 cm, .int .i64 cz]) ∧ Below W.heap.size W w'))
    (hz : (z.e == 0) = false) (k1 : -32768 ≤ k) (k2 : k ≤ 32767) (hk : ¬ k = 0) (HS : Hid (∀ W, Calls Tryd.prog 13 #[.agg #[.int .i64 k, .int .i64 0]] W fun e w' => e = .returned (.bool true) ∧ Below W.heap.size W w'))
    (HT : Hid (∀ W, Calls Tryd.prog 24 #[.agg #[.int .i64 n, .int .i64 s], .agg #[.int .i64 k, .int .i64 0]] W fun e w' => e = .returned (.tuple #[.agg #[.int .i64 t.n, .int .i64 t.s], .int .i64 t.e]) ∧ Below W.heap.size W w')) (ht : t.e = 0)
    (HB : Hid (∀ W, Calls Tryd.prog 14 #[.agg #[.int .i64 t.n, .int .i64 t.s], .agg #[.int .i64 k, .int .i64 0]] W fun e w' => e = .returned (.tuple #[.agg #[.int .i64 n, .int .i64 s], .int .i64 0]) ∧ Below W.heap.size W w')) :
    Calls Tryd.prog 8 #[.agg #[.int .i64 n, .int .i64 s], .agg #[.int .i64 n2, .int .i64 s2], .agg #[.int .i64 n3, .int .i64 s3], .int .i16 k] w fun e w' => e = .returned (.bool true) ∧ Below w.heap.size w w' := by
  have ba := ((Blk.new w 23 #[.int .i64 n, .int .i64 s]).alloc (.cells #[.int .i64 n2, .int .i64 s2] 23)).alloc (.cells #[.int .i64 n3, .int .i64 s3] 23)
  have bb := (Blk.new' (w.alloc (.cells #[.int .i64 n, .int .i64 s] 23)) 23 #[.int .i64 n2, .int .i64 s2] (n := w.heap.size + 1) (by simp)).alloc (.cells #[.int .i64 n3, .int .i64 s3] 23)
  have bc := Blk.new' ((w.alloc (.cells #[.int .i64 n, .int .i64 s] 23)).alloc (.cells #[.int .i64 n2, .int .i64 s2] 23)) 23 #[.int .i64 n3, .int .i64 s3] (n := w.heap.size + 1 + 1) (by simp)
  go_enter Tryd.func8, Tryd.ntmps8
  go_wp2_with fail
  refine (HX1.out _).mono ?_
  rintro e w1 ⟨rfl, hw1⟩
  replace ba := ba.step hw1
  replace bb := bb.step hw1
  replace bc := bc.step hw1
  replace ba := ba.alloc (.cells #[.int .i64 x.n, .int .i64 x.s] 23)
  replace bb := bb.alloc (.cells #[.int .i64 x.n, .int .i64 x.s] 23)
  replace bc := bc.alloc (.cells #[.int .i64 x.n, .int .i64 x.s] 23)
  have bx := Blk.new w1 23 #[.int .i64 x.n, .int .i64 x.s]
  have bb0 := bb.cell 0
  have bb1 := bb.cell 1
  have ba0 := ba.cell 0
  have ba1 := ba.cell 1
  simp at bb0 bb1 ba0 ba1
  go_wp2_with fail
  refine (HX2.out _).mono ?_
  rintro e w2 ⟨rfl, hw2⟩
  clear bb0 bb1 ba0 ba1
  replace ba := ba.step hw2
  replace bb := bb.step hw2
  replace bc := bc.step hw2
  replace bx := bx.step hw2
  replace ba := ba.alloc (.cells #[.int .i64 x.n, .int .i64 x.s] 23)
  replace bb := bb.alloc (.cells #[.int .i64 x.n, .int .i64 x.s] 23)
  replace bc := bc.alloc (.cells #[.int .i64 x.n, .int .i64 x.s] 23)
  replace bx := bx.alloc (.cells #[.int .i64 x.n, .int .i64 x.s] 23)
  have b_y := Blk.new w2 23 #[.int .i64 x.n, .int .i64 x.s]
  have ba0 := ba.cell 0
  have ba1 := ba.cell 1
  have bb0 := bb.cell 0
  have bb1 := bb.cell 1
  simp at ba0 ba1 bb0 bb1
  go_wp2_with fail
  refine (HP1.out _).mono ?_
  rintro e w3 ⟨rfl, hw3⟩
  clear ba0 ba1 bb0 bb1
  replace ba := ba.step hw3
  replace bb := bb.step hw3
  replace bc := bc.step hw3
  replace bx := bx.step hw3
  replace b_y := b_y.step hw3
  replace ba := ba.alloc (.cells #[.int .i64 p.n, .int .i64 p.s] 23)
  replace bb := bb.alloc (.cells #[.int .i64 p.n, .int .i64 p.s] 23)
  replace bc := bc.alloc (.cells #[.int .i64 p.n, .int .i64 p.s] 23)
  replace bx := bx.alloc (.cells #[.int .i64 p.n, .int .i64 p.s] 23)
  replace b_y := b_y.alloc (.cells #[.int .i64 p.n, .int .i64 p.s] 23)
  have bp := Blk.new w3 23 #[.int .i64 p.n, .int .i64 p.s]
  have bb0 := bb.cell 0
  have bb1 := bb.cell 1
  have ba0 := ba.cell 0
  have ba1 := ba.cell 1
  simp at bb0 bb1 ba0 ba1
  go_wp2_with fail
  refine (HP2.out _).mono ?_
  rintro e w4 ⟨rfl, hw4⟩
  clear bb0 bb1 ba0 ba1
  replace ba := ba.step hw4
  replace bb := bb.step hw4
  replace bc := bc.step hw4
  replace bx := bx.step hw4
  replace b_y := b_y.step hw4
  replace bp := bp.step hw4
  replace ba := ba.alloc (.cells #[.int .i64 p.n, .int .i64 p.s] 23)
  replace bb := bb.alloc (.cells #[.int .i64 p.n, .int .i64 p.s] 23)
  replace bc := bc.alloc (.cells #[.int .i64 p.n, .int .i64 p.s] 23)
  replace bx := bx.alloc (.cells #[.int .i64 p.n, .int .i64 p.s] 23)
  replace b_y := b_y.alloc (.cells #[.int .i64 p.n, .int .i64 p.s] 23)
  replace bp := bp.alloc (.cells #[.int .i64 p.n, .int .i64 p.s] 23)
  have bq := Blk.new w4 23 #[.int .i64 p.n, .int .i64 p.s]
  go_wp2_with fail
  refine (HW.out _ (by (repeat' (first | (with_reducible exact Below.refl _ _) | (with_reducible assumption) | (with_reducible refine balloc ?_ _) | (with_reducible refine Below.drew ?_) | (with_reducible refine bset ?_ ?_ _) | (with_reducible refine bstep ?_ (by with_reducible assumption)) | (with_reducible refine bturn ?_ (by with_reducible assumption) ?_) | go_size)))).mono ?_
  rintro e w5 ⟨rfl, hw5⟩
  replace ba := ba.step hw5
  replace bb := bb.step hw5
  replace bc := bc.step hw5
  replace bx := bx.step hw5
  replace b_y := b_y.step hw5
  replace bp := bp.step hw5
  replace bq := bq.step hw5
  have bx0 := bx.cell 0
  have bx1 := bx.cell 1
  have b_y0 := b_y.cell 0
  have b_y1 := b_y.cell 1
  have bp0 := bp.cell 0
  have bp1 := bp.cell 1
  have bq0 := bq.cell 0
  have bq1 := bq.cell 1
  simp at bx0 bx1 b_y0 b_y1 bp0 bp1 bq0 bq1
  have bc0 := bc.cell 0
  have bc1 := bc.cell 1
  have bb0 := bb.cell 0
  have bb1 := bb.cell 1
  simp at bc0 bc1 bb0 bb1
  go_wp2_with fail
  refine (HZ.out _).mono ?_
  rintro e w6 ⟨rfl, hw6⟩
  clear bx0 bx1 b_y0 b_y1 bp0 bp1 bq0 bq1 bc0 bc1 bb0 bb1
  replace ba := ba.step hw6
  replace bb := bb.step hw6
  replace bc := bc.step hw6
  replace bx := bx.step hw6
  replace b_y := b_y.step hw6
  replace bp := bp.step hw6
  replace bq := bq.step hw6
  replace ba := ba.alloc (.cells #[.int .i64 z.n, .int .i64 z.s] 23)
  replace bb := bb.alloc (.cells #[.int .i64 z.n, .int .i64 z.s] 23)
  replace bc := bc.alloc (.cells #[.int .i64 z.n, .int .i64 z.s] 23)
  replace bx := bx.alloc (.cells #[.int .i64 z.n, .int .i64 z.s] 23)
  replace b_y := b_y.alloc (.cells #[.int .i64 z.n, .int .i64 z.s] 23)
  replace bp := bp.alloc (.cells #[.int .i64 z.n, .int .i64 z.s] 23)
  replace bq := bq.alloc (.cells #[.int .i64 z.n, .int .i64 z.s] 23)
  have bz := Blk.new w6 23 #[.int .i64 z.n, .int .i64 z.s]
  clear b_y
  clear bp
  clear bq
  clear bb
  have ba0 := ba.cell 0
  have ba1 := ba.cell 1
  have bc0 := bc.cell 0
  have bc1 := bc.cell 1
  simp at ba0 ba1 bc0 bc1
  go_wp2_with fail
  refine (HC.out _).mono ?_
  rintro e w7 ⟨rfl, hw7⟩
  clear ba0 ba1 bc0 bc1
  replace ba := ba.step hw7
  replace bc := bc.step hw7
  replace bx := bx.step hw7
  replace bz := bz.step hw7
  have ba0 := ba.cell 0
  have ba1 := ba.cell 1
  simp at ba0 ba1
  go_wp2_with fail
  clear ba0 ba1
  replace ba := ba.alloc (.cells #[.int .i64 k, .int .i64 0] 23)
  replace bc := bc.alloc (.cells #[.int .i64 k, .int .i64 0] 23)
  replace bx := bx.alloc (.cells #[.int .i64 k, .int .i64 0] 23)
  replace bz := bz.alloc (.cells #[.int .i64 k, .int .i64 0] 23)
  have bk := Blk.new w7 23 #[.int .i64 k, .int .i64 0]
  refine (HS.out _).mono ?_
  rintro e w8 ⟨rfl, hw8⟩
  replace ba := ba.step hw8
  replace bc := bc.step hw8
  replace bx := bx.step hw8
  replace bz := bz.step hw8
  replace bk := bk.step hw8
  have ba0 := ba.cell 0
  have ba1 := ba.cell 1
  have bk0 := bk.cell 0
  have bk1 := bk.cell 1
  simp at ba0 ba1 bk0 bk1
  go_wp2_with fail
  refine (HT.out _).mono ?_
  rintro e w9 ⟨rfl, hw9⟩
  clear ba0 ba1 bk0 bk1
  replace ba := ba.step hw9
  replace bc := bc.step hw9
  replace bx := bx.step hw9
  replace bz := bz.step hw9
  replace bk := bk.step hw9
  replace ba := ba.alloc (.cells #[.int .i64 t.n, .int .i64 t.s] 23)
  replace bc := bc.alloc (.cells #[.int .i64 t.n, .int .i64 t.s] 23)
  replace bx := bx.alloc (.cells #[.int .i64 t.n, .int .i64 t.s] 23)
  replace bz := bz.alloc (.cells #[.int .i64 t.n, .int .i64 t.s] 23)
  replace bk := bk.alloc (.cells #[.int .i64 t.n, .int .i64 t.s] 23)
  have bt := Blk.new w9 23 #[.int .i64 t.n, .int .i64 t.s]
  have bt0 := bt.cell 0
  have bt1 := bt.cell 1
  have bk0 := bk.cell 0
  have bk1 := bk.cell 1
  simp at bt0 bt1 bk0 bk1
  go_wp2_with fail
  refine (HB.out _).mono ?_
  rintro e w10 ⟨rfl, hw10⟩
  clear bt0 bt1 bk0 bk1
  replace ba := ba.step hw10
  replace bc := bc.step hw10
  replace bx := bx.step hw10
  replace bz := bz.step hw10
  replace bk := bk.step hw10
  replace bt := bt.step hw10
  replace ba := ba.alloc (.cells #[.int .i64 n, .int .i64 s] 23)
  replace bc := bc.alloc (.cells #[.int .i64 n, .int .i64 s] 23)
  replace bx := bx.alloc (.cells #[.int .i64 n, .int .i64 s] 23)
  replace bz := bz.alloc (.cells #[.int .i64 n, .int .i64 s] 23)
  replace bk := bk.alloc (.cells #[.int .i64 n, .int .i64 s] 23)
  replace bt := bt.alloc (.cells #[.int .i64 n, .int .i64 s] 23)
  have bv := Blk.new w10 23 #[.int .i64 n, .int .i64 s]
  have bv0 := bv.cell 0
  have bv1 := bv.cell 1
  have ba0 := ba.cell 0
  have ba1 := ba.cell 1
  simp at bv0 bv1 ba0 ba1
  go_wp2_with fail
  go_returns
  exact ⟨rfl, by (repeat' (first | (with_reducible exact Below.refl _ _) | (with_reducible assumption) | (with_reducible refine balloc ?_ _) | (with_reducible refine Below.drew ?_) | (with_reducible refine bset ?_ ?_ _) | (with_reducible refine bstep ?_ (by with_reducible assumption)) | (with_reducible refine bturn ?_ (by with_reducible assumption) ?_) | go_size))⟩

end Go.Proofs.YteljkkfnnmikkaaDoor
