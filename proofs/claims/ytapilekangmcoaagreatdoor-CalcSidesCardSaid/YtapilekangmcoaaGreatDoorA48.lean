/- The walk of the law CalcSides. -/
import Derived.Test.YtapilekangmcoaaGreatDoorA53
set_option linter.unusedVariables false
set_option linter.unusedSimpArgs false
set_option maxHeartbeats 8000000
set_option maxRecDepth 100000
namespace Go.Proofs.YtapilekangmcoaaGreatDoor
open Go.RowKit Go.Shelf
attribute [local go_sem high] run_vl_eql run_vl_neq
/-- Two texts that come to one value. -/
structure PairC (w : World) (L : Array Value) (s t : ByteArray) : Prop where
 all : ∃ (x y : Ex) (rk rn rs rm re : Int) (rq : ByteArray),
   (∀ W, Below w.heap.size w W → Calls Tryz.prog 9 #[.string s] W fun e w' => (∃ cs, e = .returned (.tuple #[.agg cs, .int .i64 0, .int .i64 0]) ∧ XM (fun _ => True) w' x cs) ∧ Below W.heap.size W w') ∧
   (∀ W, Below w.heap.size w W → Calls Tryz.prog 9 #[.string t] W fun e w' => (∃ cs, e = .returned (.tuple #[.agg cs, .int .i64 0, .int .i64 0]) ∧ XM (fun _ => True) w' y cs) ∧ Below W.heap.size W w') ∧
   (∀ z cs g W, z = x ∨ z = y → Below w.heap.size w W → XM (fun _ => True) W z cs → Blk W g 27 L → Calls Tryz.prog 10 #[.agg cs, .slice (some ⟨g, 0, none⟩) 2 2] W fun e w' => e = .returned (.tuple #[.agg #[.int .i64 rk, .int .i64 rn, .int .i64 rs, .string rq, .int .i64 rm], .int .i64 re]) ∧ Below W.heap.size W w')
theorem cs_walk (ak an as' am : Int) (aq : ByteArray) (bk bn bs' bm : Int) (bq : ByteArray) (w : World)
   (HA : Hid (∀ W, Below w.heap.size w W → Calls Tryz.prog 11 #[] W fun e w' => e = .returned (.bool true) ∧ Below W.heap.size W w'))
   (P0 : Hid (PairC w #[.string ⟨#[97]⟩, .int .i64 ak, .int .i64 an, .int .i64 as', .string aq, .int .i64 am, .string ⟨#[98]⟩, .int .i64 bk, .int .i64 bn, .int .i64 bs', .string bq, .int .i64 bm] ⟨#[97, 32, 60, 32, 98]⟩ ⟨#[98, 32, 62, 32, 97]⟩))
   (P1 : Hid (PairC w #[.string ⟨#[97]⟩, .int .i64 ak, .int .i64 an, .int .i64 as', .string aq, .int .i64 am, .string ⟨#[98]⟩, .int .i64 bk, .int .i64 bn, .int .i64 bs', .string bq, .int .i64 bm] ⟨#[97, 32, 60, 61, 32, 98]⟩ ⟨#[110, 111, 116, 40, 98, 32, 60, 32, 97, 41]⟩))
   (P2 : Hid (PairC w #[.string ⟨#[97]⟩, .int .i64 ak, .int .i64 an, .int .i64 as', .string aq, .int .i64 am, .string ⟨#[98]⟩, .int .i64 bk, .int .i64 bn, .int .i64 bs', .string bq, .int .i64 bm] ⟨#[97, 32, 62, 61, 32, 98]⟩ ⟨#[98, 32, 60, 61, 32, 97]⟩))
   (P3 : Hid (PairC w #[.string ⟨#[97]⟩, .int .i64 ak, .int .i64 an, .int .i64 as', .string aq, .int .i64 am, .string ⟨#[98]⟩, .int .i64 bk, .int .i64 bn, .int .i64 bs', .string bq, .int .i64 bm] ⟨#[97, 32, 33, 61, 32, 98]⟩ ⟨#[110, 111, 116, 40, 97, 32, 61, 32, 98, 41]⟩))
   (P4 : Hid (PairC w #[.string ⟨#[97]⟩, .int .i64 ak, .int .i64 an, .int .i64 as', .string aq, .int .i64 am, .string ⟨#[98]⟩, .int .i64 bk, .int .i64 bn, .int .i64 bs', .string bq, .int .i64 bm] ⟨#[97, 32, 61, 32, 98]⟩ ⟨#[98, 32, 61, 32, 97]⟩))
   (P5 : Hid (PairC w #[.string ⟨#[97]⟩, .int .i64 ak, .int .i64 an, .int .i64 as', .string aq, .int .i64 am, .string ⟨#[98]⟩, .int .i64 bk, .int .i64 bn, .int .i64 bs', .string bq, .int .i64 bm] ⟨#[97, 32, 60, 32, 98]⟩ ⟨#[110, 111, 116, 40, 110, 111, 116, 40, 97, 32, 60, 32, 98, 41, 41]⟩)) :
   Calls Tryz.prog 3 #[.agg #[.int .i64 ak, .int .i64 an, .int .i64 as', .string aq, .int .i64 am], .agg #[.int .i64 bk, .int .i64 bn, .int .i64 bs', .string bq, .int .i64 bm]] w fun e w' => e = .returned (.bool true) ∧ Below w.heap.size w w' := by
 have HL0 : Hid (Blk (((w.alloc (.cells #[.int .i64 ak, .int .i64 an, .int .i64 as', .string aq, .int .i64 am] 25)).alloc (.cells #[.int .i64 bk, .int .i64 bn, .int .i64 bs', .string bq, .int .i64 bm] 25)).alloc (.cells #[.string ⟨#[97]⟩, .int .i64 ak, .int .i64 an, .int .i64 as', .string aq, .int .i64 am, .string ⟨#[98]⟩, .int .i64 bk, .int .i64 bn, .int .i64 bs', .string bq, .int .i64 bm] 27)) (w.heap.size + 1 + 1) 27 #[.string ⟨#[97]⟩, .int .i64 ak, .int .i64 an, .int .i64 as', .string aq, .int .i64 am, .string ⟨#[98]⟩, .int .i64 bk, .int .i64 bn, .int .i64 bs', .string bq, .int .i64 bm]) := Lib.hid (Blk.new' _ _ _ (by simp))
 have hb00 : Below w.heap.size w (((w.alloc (.cells #[.int .i64 ak, .int .i64 an, .int .i64 as', .string aq, .int .i64 am] 25)).alloc (.cells #[.int .i64 bk, .int .i64 bn, .int .i64 bs', .string bq, .int .i64 bm] 25)).alloc (.cells #[.string ⟨#[97]⟩, .int .i64 ak, .int .i64 an, .int .i64 as', .string aq, .int .i64 am, .string ⟨#[98]⟩, .int .i64 bk, .int .i64 bn, .int .i64 bs', .string bq, .int .i64 bm] 27)) := by (repeat' first | (with_reducible first | exact .refl _ _ | assumption | apply balloc | apply Below.drew | apply bset | refine bstep ?_ ‹_› | refine bturn ?_ ‹_› ?_) | go_size)
 go_enter Tryz.func3, Tryz.ntmps3
 go_upto_region 2 with fail
 generalize (((w.alloc (.cells #[.int .i64 ak, .int .i64 an, .int .i64 as', .string aq, .int .i64 am] 25)).alloc (.cells #[.int .i64 bk, .int .i64 bn, .int .i64 bs', .string bq, .int .i64 bm] 25)).alloc (.cells #[.string ⟨#[97]⟩, .int .i64 ak, .int .i64 an, .int .i64 as', .string aq, .int .i64 am, .string ⟨#[98]⟩, .int .i64 bk, .int .i64 bn, .int .i64 bs', .string bq, .int .i64 bm] 27)) = w0 at *
 have q0 : Blk (((((((w0.alloc (.cells #[.string ⟨#[97, 32, 60, 32, 98]⟩, .string ⟨#[98, 32, 62, 32, 97]⟩] 9)).alloc (.cells #[.string ⟨#[97, 32, 60, 61, 32, 98]⟩, .string ⟨#[110, 111, 116, 40, 98, 32, 60, 32, 97, 41]⟩] 9)).alloc (.cells #[.string ⟨#[97, 32, 62, 61, 32, 98]⟩, .string ⟨#[98, 32, 60, 61, 32, 97]⟩] 9)).alloc (.cells #[.string ⟨#[97, 32, 33, 61, 32, 98]⟩, .string ⟨#[110, 111, 116, 40, 97, 32, 61, 32, 98, 41]⟩] 9)).alloc (.cells #[.string ⟨#[97, 32, 61, 32, 98]⟩, .string ⟨#[98, 32, 61, 32, 97]⟩] 9)).alloc (.cells #[.string ⟨#[97, 32, 60, 32, 98]⟩, .string ⟨#[110, 111, 116, 40, 110, 111, 116, 40, 97, 32, 60, 32, 98, 41, 41]⟩] 9)).alloc (.cells #[.slice (some ⟨w0.heap.size, 0, none⟩) 2 2, .slice (some ⟨w0.heap.size + 1, 0, none⟩) 2 2, .slice (some ⟨w0.heap.size + 1 + 1, 0, none⟩) 2 2, .slice (some ⟨w0.heap.size + 1 + 1 + 1, 0, none⟩) 2 2, .slice (some ⟨w0.heap.size + 1 + 1 + 1 + 1, 0, none⟩) 2 2, .slice (some ⟨w0.heap.size + 1 + 1 + 1 + 1 + 1, 0, none⟩) 2 2] 29)) (w0.heap.size) 9 #[.string ⟨#[97, 32, 60, 32, 98]⟩, .string ⟨#[98, 32, 62, 32, 97]⟩] := (((((((Blk.new _ _ _).alloc _).alloc _).alloc _).alloc _).alloc _).alloc _)
 have q1 : Blk (((((((w0.alloc (.cells #[.string ⟨#[97, 32, 60, 32, 98]⟩, .string ⟨#[98, 32, 62, 32, 97]⟩] 9)).alloc (.cells #[.string ⟨#[97, 32, 60, 61, 32, 98]⟩, .string ⟨#[110, 111, 116, 40, 98, 32, 60, 32, 97, 41]⟩] 9)).alloc (.cells #[.string ⟨#[97, 32, 62, 61, 32, 98]⟩, .string ⟨#[98, 32, 60, 61, 32, 97]⟩] 9)).alloc (.cells #[.string ⟨#[97, 32, 33, 61, 32, 98]⟩, .string ⟨#[110, 111, 116, 40, 97, 32, 61, 32, 98, 41]⟩] 9)).alloc (.cells #[.string ⟨#[97, 32, 61, 32, 98]⟩, .string ⟨#[98, 32, 61, 32, 97]⟩] 9)).alloc (.cells #[.string ⟨#[97, 32, 60, 32, 98]⟩, .string ⟨#[110, 111, 116, 40, 110, 111, 116, 40, 97, 32, 60, 32, 98, 41, 41]⟩] 9)).alloc (.cells #[.slice (some ⟨w0.heap.size, 0, none⟩) 2 2, .slice (some ⟨w0.heap.size + 1, 0, none⟩) 2 2, .slice (some ⟨w0.heap.size + 1 + 1, 0, none⟩) 2 2, .slice (some ⟨w0.heap.size + 1 + 1 + 1, 0, none⟩) 2 2, .slice (some ⟨w0.heap.size + 1 + 1 + 1 + 1, 0, none⟩) 2 2, .slice (some ⟨w0.heap.size + 1 + 1 + 1 + 1 + 1, 0, none⟩) 2 2] 29)) (w0.heap.size + 1) 9 #[.string ⟨#[97, 32, 60, 61, 32, 98]⟩, .string ⟨#[110, 111, 116, 40, 98, 32, 60, 32, 97, 41]⟩] := ((((((Blk.new' _ _ _ (by simp)).alloc _).alloc _).alloc _).alloc _).alloc _)
 have q2 : Blk (((((((w0.alloc (.cells #[.string ⟨#[97, 32, 60, 32, 98]⟩, .string ⟨#[98, 32, 62, 32, 97]⟩] 9)).alloc (.cells #[.string ⟨#[97, 32, 60, 61, 32, 98]⟩, .string ⟨#[110, 111, 116, 40, 98, 32, 60, 32, 97, 41]⟩] 9)).alloc (.cells #[.string ⟨#[97, 32, 62, 61, 32, 98]⟩, .string ⟨#[98, 32, 60, 61, 32, 97]⟩] 9)).alloc (.cells #[.string ⟨#[97, 32, 33, 61, 32, 98]⟩, .string ⟨#[110, 111, 116, 40, 97, 32, 61, 32, 98, 41]⟩] 9)).alloc (.cells #[.string ⟨#[97, 32, 61, 32, 98]⟩, .string ⟨#[98, 32, 61, 32, 97]⟩] 9)).alloc (.cells #[.string ⟨#[97, 32, 60, 32, 98]⟩, .string ⟨#[110, 111, 116, 40, 110, 111, 116, 40, 97, 32, 60, 32, 98, 41, 41]⟩] 9)).alloc (.cells #[.slice (some ⟨w0.heap.size, 0, none⟩) 2 2, .slice (some ⟨w0.heap.size + 1, 0, none⟩) 2 2, .slice (some ⟨w0.heap.size + 1 + 1, 0, none⟩) 2 2, .slice (some ⟨w0.heap.size + 1 + 1 + 1, 0, none⟩) 2 2, .slice (some ⟨w0.heap.size + 1 + 1 + 1 + 1, 0, none⟩) 2 2, .slice (some ⟨w0.heap.size + 1 + 1 + 1 + 1 + 1, 0, none⟩) 2 2] 29)) (w0.heap.size + 1 + 1) 9 #[.string ⟨#[97, 32, 62, 61, 32, 98]⟩, .string ⟨#[98, 32, 60, 61, 32, 97]⟩] := (((((Blk.new' _ _ _ (by simp)).alloc _).alloc _).alloc _).alloc _)
 have q3 : Blk (((((((w0.alloc (.cells #[.string ⟨#[97, 32, 60, 32, 98]⟩, .string ⟨#[98, 32, 62, 32, 97]⟩] 9)).alloc (.cells #[.string ⟨#[97, 32, 60, 61, 32, 98]⟩, .string ⟨#[110, 111, 116, 40, 98, 32, 60, 32, 97, 41]⟩] 9)).alloc (.cells #[.string ⟨#[97, 32, 62, 61, 32, 98]⟩, .string ⟨#[98, 32, 60, 61, 32, 97]⟩] 9)).alloc (.cells #[.string ⟨#[97, 32, 33, 61, 32, 98]⟩, .string ⟨#[110, 111, 116, 40, 97, 32, 61, 32, 98, 41]⟩] 9)).alloc (.cells #[.string ⟨#[97, 32, 61, 32, 98]⟩, .string ⟨#[98, 32, 61, 32, 97]⟩] 9)).alloc (.cells #[.string ⟨#[97, 32, 60, 32, 98]⟩, .string ⟨#[110, 111, 116, 40, 110, 111, 116, 40, 97, 32, 60, 32, 98, 41, 41]⟩] 9)).alloc (.cells #[.slice (some ⟨w0.heap.size, 0, none⟩) 2 2, .slice (some ⟨w0.heap.size + 1, 0, none⟩) 2 2, .slice (some ⟨w0.heap.size + 1 + 1, 0, none⟩) 2 2, .slice (some ⟨w0.heap.size + 1 + 1 + 1, 0, none⟩) 2 2, .slice (some ⟨w0.heap.size + 1 + 1 + 1 + 1, 0, none⟩) 2 2, .slice (some ⟨w0.heap.size + 1 + 1 + 1 + 1 + 1, 0, none⟩) 2 2] 29)) (w0.heap.size + 1 + 1 + 1) 9 #[.string ⟨#[97, 32, 33, 61, 32, 98]⟩, .string ⟨#[110, 111, 116, 40, 97, 32, 61, 32, 98, 41]⟩] := ((((Blk.new' _ _ _ (by simp)).alloc _).alloc _).alloc _)
 have q4 : Blk (((((((w0.alloc (.cells #[.string ⟨#[97, 32, 60, 32, 98]⟩, .string ⟨#[98, 32, 62, 32, 97]⟩] 9)).alloc (.cells #[.string ⟨#[97, 32, 60, 61, 32, 98]⟩, .string ⟨#[110, 111, 116, 40, 98, 32, 60, 32, 97, 41]⟩] 9)).alloc (.cells #[.string ⟨#[97, 32, 62, 61, 32, 98]⟩, .string ⟨#[98, 32, 60, 61, 32, 97]⟩] 9)).alloc (.cells #[.string ⟨#[97, 32, 33, 61, 32, 98]⟩, .string ⟨#[110, 111, 116, 40, 97, 32, 61, 32, 98, 41]⟩] 9)).alloc (.cells #[.string ⟨#[97, 32, 61, 32, 98]⟩, .string ⟨#[98, 32, 61, 32, 97]⟩] 9)).alloc (.cells #[.string ⟨#[97, 32, 60, 32, 98]⟩, .string ⟨#[110, 111, 116, 40, 110, 111, 116, 40, 97, 32, 60, 32, 98, 41, 41]⟩] 9)).alloc (.cells #[.slice (some ⟨w0.heap.size, 0, none⟩) 2 2, .slice (some ⟨w0.heap.size + 1, 0, none⟩) 2 2, .slice (some ⟨w0.heap.size + 1 + 1, 0, none⟩) 2 2, .slice (some ⟨w0.heap.size + 1 + 1 + 1, 0, none⟩) 2 2, .slice (some ⟨w0.heap.size + 1 + 1 + 1 + 1, 0, none⟩) 2 2, .slice (some ⟨w0.heap.size + 1 + 1 + 1 + 1 + 1, 0, none⟩) 2 2] 29)) (w0.heap.size + 1 + 1 + 1 + 1) 9 #[.string ⟨#[97, 32, 61, 32, 98]⟩, .string ⟨#[98, 32, 61, 32, 97]⟩] := (((Blk.new' _ _ _ (by simp)).alloc _).alloc _)
 have q5 : Blk (((((((w0.alloc (.cells #[.string ⟨#[97, 32, 60, 32, 98]⟩, .string ⟨#[98, 32, 62, 32, 97]⟩] 9)).alloc (.cells #[.string ⟨#[97, 32, 60, 61, 32, 98]⟩, .string ⟨#[110, 111, 116, 40, 98, 32, 60, 32, 97, 41]⟩] 9)).alloc (.cells #[.string ⟨#[97, 32, 62, 61, 32, 98]⟩, .string ⟨#[98, 32, 60, 61, 32, 97]⟩] 9)).alloc (.cells #[.string ⟨#[97, 32, 33, 61, 32, 98]⟩, .string ⟨#[110, 111, 116, 40, 97, 32, 61, 32, 98, 41]⟩] 9)).alloc (.cells #[.string ⟨#[97, 32, 61, 32, 98]⟩, .string ⟨#[98, 32, 61, 32, 97]⟩] 9)).alloc (.cells #[.string ⟨#[97, 32, 60, 32, 98]⟩, .string ⟨#[110, 111, 116, 40, 110, 111, 116, 40, 97, 32, 60, 32, 98, 41, 41]⟩] 9)).alloc (.cells #[.slice (some ⟨w0.heap.size, 0, none⟩) 2 2, .slice (some ⟨w0.heap.size + 1, 0, none⟩) 2 2, .slice (some ⟨w0.heap.size + 1 + 1, 0, none⟩) 2 2, .slice (some ⟨w0.heap.size + 1 + 1 + 1, 0, none⟩) 2 2, .slice (some ⟨w0.heap.size + 1 + 1 + 1 + 1, 0, none⟩) 2 2, .slice (some ⟨w0.heap.size + 1 + 1 + 1 + 1 + 1, 0, none⟩) 2 2] 29)) (w0.heap.size + 1 + 1 + 1 + 1 + 1) 9 #[.string ⟨#[97, 32, 60, 32, 98]⟩, .string ⟨#[110, 111, 116, 40, 110, 111, 116, 40, 97, 32, 60, 32, 98, 41, 41]⟩] := ((Blk.new' _ _ _ (by simp)).alloc _)
 have q6 : Blk (((((((w0.alloc (.cells #[.string ⟨#[97, 32, 60, 32, 98]⟩, .string ⟨#[98, 32, 62, 32, 97]⟩] 9)).alloc (.cells #[.string ⟨#[97, 32, 60, 61, 32, 98]⟩, .string ⟨#[110, 111, 116, 40, 98, 32, 60, 32, 97, 41]⟩] 9)).alloc (.cells #[.string ⟨#[97, 32, 62, 61, 32, 98]⟩, .string ⟨#[98, 32, 60, 61, 32, 97]⟩] 9)).alloc (.cells #[.string ⟨#[97, 32, 33, 61, 32, 98]⟩, .string ⟨#[110, 111, 116, 40, 97, 32, 61, 32, 98, 41]⟩] 9)).alloc (.cells #[.string ⟨#[97, 32, 61, 32, 98]⟩, .string ⟨#[98, 32, 61, 32, 97]⟩] 9)).alloc (.cells #[.string ⟨#[97, 32, 60, 32, 98]⟩, .string ⟨#[110, 111, 116, 40, 110, 111, 116, 40, 97, 32, 60, 32, 98, 41, 41]⟩] 9)).alloc (.cells #[.slice (some ⟨w0.heap.size, 0, none⟩) 2 2, .slice (some ⟨w0.heap.size + 1, 0, none⟩) 2 2, .slice (some ⟨w0.heap.size + 1 + 1, 0, none⟩) 2 2, .slice (some ⟨w0.heap.size + 1 + 1 + 1, 0, none⟩) 2 2, .slice (some ⟨w0.heap.size + 1 + 1 + 1 + 1, 0, none⟩) 2 2, .slice (some ⟨w0.heap.size + 1 + 1 + 1 + 1 + 1, 0, none⟩) 2 2] 29)) (w0.heap.size + 1 + 1 + 1 + 1 + 1 + 1) 29 #[.slice (some ⟨w0.heap.size, 0, none⟩) 2 2, .slice (some ⟨w0.heap.size + 1, 0, none⟩) 2 2, .slice (some ⟨w0.heap.size + 1 + 1, 0, none⟩) 2 2, .slice (some ⟨w0.heap.size + 1 + 1 + 1, 0, none⟩) 2 2, .slice (some ⟨w0.heap.size + 1 + 1 + 1 + 1, 0, none⟩) 2 2, .slice (some ⟨w0.heap.size + 1 + 1 + 1 + 1 + 1, 0, none⟩) 2 2] := Blk.new' _ _ _ (by simp)
 have HP : Hid (∀ k, k < 6 → ∃ g s t, ((((((((w0.alloc (.cells #[.string ⟨#[97, 32, 60, 32, 98]⟩, .string ⟨#[98, 32, 62, 32, 97]⟩] 9)).alloc (.cells #[.string ⟨#[97, 32, 60, 61, 32, 98]⟩, .string ⟨#[110, 111, 116, 40, 98, 32, 60, 32, 97, 41]⟩] 9)).alloc (.cells #[.string ⟨#[97, 32, 62, 61, 32, 98]⟩, .string ⟨#[98, 32, 60, 61, 32, 97]⟩] 9)).alloc (.cells #[.string ⟨#[97, 32, 33, 61, 32, 98]⟩, .string ⟨#[110, 111, 116, 40, 97, 32, 61, 32, 98, 41]⟩] 9)).alloc (.cells #[.string ⟨#[97, 32, 61, 32, 98]⟩, .string ⟨#[98, 32, 61, 32, 97]⟩] 9)).alloc (.cells #[.string ⟨#[97, 32, 60, 32, 98]⟩, .string ⟨#[110, 111, 116, 40, 110, 111, 116, 40, 97, 32, 60, 32, 98, 41, 41]⟩] 9)).alloc (.cells #[.slice (some ⟨w0.heap.size, 0, none⟩) 2 2, .slice (some ⟨w0.heap.size + 1, 0, none⟩) 2 2, .slice (some ⟨w0.heap.size + 1 + 1, 0, none⟩) 2 2, .slice (some ⟨w0.heap.size + 1 + 1 + 1, 0, none⟩) 2 2, .slice (some ⟨w0.heap.size + 1 + 1 + 1 + 1, 0, none⟩) 2 2, .slice (some ⟨w0.heap.size + 1 + 1 + 1 + 1 + 1, 0, none⟩) 2 2] 29))).cell? ⟨w0.heap.size + 1 + 1 + 1 + 1 + 1 + 1, k, none⟩ = some (.slice (some ⟨g, 0, none⟩) 2 2) ∧ ((((((((w0.alloc (.cells #[.string ⟨#[97, 32, 60, 32, 98]⟩, .string ⟨#[98, 32, 62, 32, 97]⟩] 9)).alloc (.cells #[.string ⟨#[97, 32, 60, 61, 32, 98]⟩, .string ⟨#[110, 111, 116, 40, 98, 32, 60, 32, 97, 41]⟩] 9)).alloc (.cells #[.string ⟨#[97, 32, 62, 61, 32, 98]⟩, .string ⟨#[98, 32, 60, 61, 32, 97]⟩] 9)).alloc (.cells #[.string ⟨#[97, 32, 33, 61, 32, 98]⟩, .string ⟨#[110, 111, 116, 40, 97, 32, 61, 32, 98, 41]⟩] 9)).alloc (.cells #[.string ⟨#[97, 32, 61, 32, 98]⟩, .string ⟨#[98, 32, 61, 32, 97]⟩] 9)).alloc (.cells #[.string ⟨#[97, 32, 60, 32, 98]⟩, .string ⟨#[110, 111, 116, 40, 110, 111, 116, 40, 97, 32, 60, 32, 98, 41, 41]⟩] 9)).alloc (.cells #[.slice (some ⟨w0.heap.size, 0, none⟩) 2 2, .slice (some ⟨w0.heap.size + 1, 0, none⟩) 2 2, .slice (some ⟨w0.heap.size + 1 + 1, 0, none⟩) 2 2, .slice (some ⟨w0.heap.size + 1 + 1 + 1, 0, none⟩) 2 2, .slice (some ⟨w0.heap.size + 1 + 1 + 1 + 1, 0, none⟩) 2 2, .slice (some ⟨w0.heap.size + 1 + 1 + 1 + 1 + 1, 0, none⟩) 2 2] 29))).cell? ⟨g, 0, none⟩ = some (.string s) ∧ ((((((((w0.alloc (.cells #[.string ⟨#[97, 32, 60, 32, 98]⟩, .string ⟨#[98, 32, 62, 32, 97]⟩] 9)).alloc (.cells #[.string ⟨#[97, 32, 60, 61, 32, 98]⟩, .string ⟨#[110, 111, 116, 40, 98, 32, 60, 32, 97, 41]⟩] 9)).alloc (.cells #[.string ⟨#[97, 32, 62, 61, 32, 98]⟩, .string ⟨#[98, 32, 60, 61, 32, 97]⟩] 9)).alloc (.cells #[.string ⟨#[97, 32, 33, 61, 32, 98]⟩, .string ⟨#[110, 111, 116, 40, 97, 32, 61, 32, 98, 41]⟩] 9)).alloc (.cells #[.string ⟨#[97, 32, 61, 32, 98]⟩, .string ⟨#[98, 32, 61, 32, 97]⟩] 9)).alloc (.cells #[.string ⟨#[97, 32, 60, 32, 98]⟩, .string ⟨#[110, 111, 116, 40, 110, 111, 116, 40, 97, 32, 60, 32, 98, 41, 41]⟩] 9)).alloc (.cells #[.slice (some ⟨w0.heap.size, 0, none⟩) 2 2, .slice (some ⟨w0.heap.size + 1, 0, none⟩) 2 2, .slice (some ⟨w0.heap.size + 1 + 1, 0, none⟩) 2 2, .slice (some ⟨w0.heap.size + 1 + 1 + 1, 0, none⟩) 2 2, .slice (some ⟨w0.heap.size + 1 + 1 + 1 + 1, 0, none⟩) 2 2, .slice (some ⟨w0.heap.size + 1 + 1 + 1 + 1 + 1, 0, none⟩) 2 2] 29))).cell? ⟨g, 1, none⟩ = some (.string t) ∧ PairC w #[.string ⟨#[97]⟩, .int .i64 ak, .int .i64 an, .int .i64 as', .string aq, .int .i64 am, .string ⟨#[98]⟩, .int .i64 bk, .int .i64 bn, .int .i64 bs', .string bq, .int .i64 bm] s t) := Lib.hid fun k hk => by
   match k, hk with
   | 0, _ => exact ⟨_, _, _, q6.cell 0, q0.cell 0, q0.cell 1, P0.out⟩
   | 1, _ => exact ⟨_, _, _, q6.cell 1, q1.cell 0, q1.cell 1, P1.out⟩
   | 2, _ => exact ⟨_, _, _, q6.cell 2, q2.cell 0, q2.cell 1, P2.out⟩
   | 3, _ => exact ⟨_, _, _, q6.cell 3, q3.cell 0, q3.cell 1, P3.out⟩
   | 4, _ => exact ⟨_, _, _, q6.cell 4, q4.cell 0, q4.cell 1, P4.out⟩
   | 5, _ => exact ⟨_, _, _, q6.cell 5, q5.cell 0, q5.cell 1, P5.out⟩
 have HL9 : Hid (Blk (((((((w0.alloc (.cells #[.string ⟨#[97, 32, 60, 32, 98]⟩, .string ⟨#[98, 32, 62, 32, 97]⟩] 9)).alloc (.cells #[.string ⟨#[97, 32, 60, 61, 32, 98]⟩, .string ⟨#[110, 111, 116, 40, 98, 32, 60, 32, 97, 41]⟩] 9)).alloc (.cells #[.string ⟨#[97, 32, 62, 61, 32, 98]⟩, .string ⟨#[98, 32, 60, 61, 32, 97]⟩] 9)).alloc (.cells #[.string ⟨#[97, 32, 33, 61, 32, 98]⟩, .string ⟨#[110, 111, 116, 40, 97, 32, 61, 32, 98, 41]⟩] 9)).alloc (.cells #[.string ⟨#[97, 32, 61, 32, 98]⟩, .string ⟨#[98, 32, 61, 32, 97]⟩] 9)).alloc (.cells #[.string ⟨#[97, 32, 60, 32, 98]⟩, .string ⟨#[110, 111, 116, 40, 110, 111, 116, 40, 97, 32, 60, 32, 98, 41, 41]⟩] 9)).alloc (.cells #[.slice (some ⟨w0.heap.size, 0, none⟩) 2 2, .slice (some ⟨w0.heap.size + 1, 0, none⟩) 2 2, .slice (some ⟨w0.heap.size + 1 + 1, 0, none⟩) 2 2, .slice (some ⟨w0.heap.size + 1 + 1 + 1, 0, none⟩) 2 2, .slice (some ⟨w0.heap.size + 1 + 1 + 1 + 1, 0, none⟩) 2 2, .slice (some ⟨w0.heap.size + 1 + 1 + 1 + 1 + 1, 0, none⟩) 2 2] 29)) (w.heap.size + 1 + 1) 27 #[.string ⟨#[97]⟩, .int .i64 ak, .int .i64 an, .int .i64 as', .string aq, .int .i64 am, .string ⟨#[98]⟩, .int .i64 bk, .int .i64 bn, .int .i64 bs', .string bq, .int .i64 bm]) := Lib.hid (HL0.out.alloc _ |>.alloc _ |>.alloc _ |>.alloc _ |>.alloc _ |>.alloc _ |>.alloc _)
 have hb09 : Below w.heap.size w (((((((w0.alloc (.cells #[.string ⟨#[97, 32, 60, 32, 98]⟩, .string ⟨#[98, 32, 62, 32, 97]⟩] 9)).alloc (.cells #[.string ⟨#[97, 32, 60, 61, 32, 98]⟩, .string ⟨#[110, 111, 116, 40, 98, 32, 60, 32, 97, 41]⟩] 9)).alloc (.cells #[.string ⟨#[97, 32, 62, 61, 32, 98]⟩, .string ⟨#[98, 32, 60, 61, 32, 97]⟩] 9)).alloc (.cells #[.string ⟨#[97, 32, 33, 61, 32, 98]⟩, .string ⟨#[110, 111, 116, 40, 97, 32, 61, 32, 98, 41]⟩] 9)).alloc (.cells #[.string ⟨#[97, 32, 61, 32, 98]⟩, .string ⟨#[98, 32, 61, 32, 97]⟩] 9)).alloc (.cells #[.string ⟨#[97, 32, 60, 32, 98]⟩, .string ⟨#[110, 111, 116, 40, 110, 111, 116, 40, 97, 32, 60, 32, 98, 41, 41]⟩] 9)).alloc (.cells #[.slice (some ⟨w0.heap.size, 0, none⟩) 2 2, .slice (some ⟨w0.heap.size + 1, 0, none⟩) 2 2, .slice (some ⟨w0.heap.size + 1 + 1, 0, none⟩) 2 2, .slice (some ⟨w0.heap.size + 1 + 1 + 1, 0, none⟩) 2 2, .slice (some ⟨w0.heap.size + 1 + 1 + 1 + 1, 0, none⟩) 2 2, .slice (some ⟨w0.heap.size + 1 + 1 + 1 + 1 + 1, 0, none⟩) 2 2] 29)) := by (repeat' first | (with_reducible first | exact .refl _ _ | assumption | apply balloc | apply Below.drew | apply bset | refine bstep ?_ ‹_› | refine bturn ?_ ‹_› ?_) | go_size)
 clear q0 q1 q2 q3 q4 q5 q6 P0 P1 P2 P3 P4 P5 HL0 hb00
 go_upto_region 3 with fail
 generalize (((((((w0.alloc (.cells #[.string ⟨#[97, 32, 60, 32, 98]⟩, .string ⟨#[98, 32, 62, 32, 97]⟩] 9)).alloc (.cells #[.string ⟨#[97, 32, 60, 61, 32, 98]⟩, .string ⟨#[110, 111, 116, 40, 98, 32, 60, 32, 97, 41]⟩] 9)).alloc (.cells #[.string ⟨#[97, 32, 62, 61, 32, 98]⟩, .string ⟨#[98, 32, 60, 61, 32, 97]⟩] 9)).alloc (.cells #[.string ⟨#[97, 32, 33, 61, 32, 98]⟩, .string ⟨#[110, 111, 116, 40, 97, 32, 61, 32, 98, 41]⟩] 9)).alloc (.cells #[.string ⟨#[97, 32, 61, 32, 98]⟩, .string ⟨#[98, 32, 61, 32, 97]⟩] 9)).alloc (.cells #[.string ⟨#[97, 32, 60, 32, 98]⟩, .string ⟨#[110, 111, 116, 40, 110, 111, 116, 40, 97, 32, 60, 32, 98, 41, 41]⟩] 9)).alloc (.cells #[.slice (some ⟨w0.heap.size, 0, none⟩) 2 2, .slice (some ⟨w0.heap.size + 1, 0, none⟩) 2 2, .slice (some ⟨w0.heap.size + 1 + 1, 0, none⟩) 2 2, .slice (some ⟨w0.heap.size + 1 + 1 + 1, 0, none⟩) 2 2, .slice (some ⟨w0.heap.size + 1 + 1 + 1 + 1, 0, none⟩) 2 2, .slice (some ⟨w0.heap.size + 1 + 1 + 1 + 1 + 1, 0, none⟩) 2 2] 29)) = w9 at *
 generalize w0.heap.size + 1 + 1 + 1 + 1 + 1 + 1 = G at *
 go_wp2_with fail
 go_loopw [7] (fun i wr => ∃ k : Nat, k ≤ 6 ∧ i = .int .i64 (k : Int) ∧ Below w.heap.size w wr ∧ Below w9.heap.size w9 wr ∧ Blk wr (w.heap.size + 1 + 1) 27 #[.string ⟨#[97]⟩, .int .i64 ak, .int .i64 an, .int .i64 as', .string aq, .int .i64 am, .string ⟨#[98]⟩, .int .i64 bk, .int .i64 bn, .int .i64 bs', .string bq, .int .i64 bm]) (fun i _ => 6 - (intOf i).toNat)
 case atStart => exact ⟨0, by omega, rfl, hb09, Below.refl _ _, HL9.out⟩
 case round =>
   obtain ⟨k, hk, rfl, hb, hb9, hl⟩ := hrel
   have Kl0 := Lib.hid hl
   clear hl HL9
   by_cases hlt : k < 6
   · have hki : (k : Int) < 6 := by omega
     have hkn : IntKind.i64.wrap ((k : Int) + 1) = ((k + 1 : Nat) : Int) := by rw [IntWalk.i64_in _ (by omega)]; omega
     obtain ⟨g, s, t, c0, c1, c2, ⟨x, y, rk, rn, rs, rm, re, rq, H1, H2, H3⟩⟩ := HP.out k hlt
     have D0 := Lib.hid c0
     have D1 := Lib.hid c1
     have D2 := Lib.hid c2
     have HX := Lib.hid H1
     have HY := Lib.hid H2
     have HE := Lib.hid H3
     replace c0 := keep1 hb9 c0
     replace c1 := keep1 hb9 c1
     replace c2 := keep1 hb9 c2
     clear H1 H2 H3
     go_wp2_with fail
     refine (HX.out _ hb).mono ?_
     rintro _ w1 ⟨⟨cs, rfl, hx⟩, hb1⟩
     have hb01 := bstep hb hb1
     have hb91 := bstep hb9 hb1
     have X1 := Lib.hid hx
     obtain ⟨ox, kx, nx, sx, qx, mx, rx, Bx, lx, cx, rfl⟩ := hx.cells
     have kA : Blk (w1.alloc (.cells #[.int .i64 0, .int .i64 0, .int .i64 0, .int .i64 0, .string ⟨#[]⟩, .int .i64 0, .string ⟨#[]⟩, .slice none 0 0] 33)) w1.heap.size 33 #[.int .i64 0, .int .i64 0, .int .i64 0, .int .i64 0, .string ⟨#[]⟩, .int .i64 0, .string ⟨#[]⟩, .slice none 0 0] := Blk.new _ _ _
     have Kl1 := Lib.hid (Kl0.out.step hb1)
     clear c0 c1 c2 hx hb1 hb Kl0
     go_upto_region 7 with (refine wpList_store_blk kA rfl _ _ _ (by rfl) _ (by rfl) (by rfl) (by repeat first | with_reducible first | exact kA | apply Blk.alloc | apply Blk.drew | refine Blk.far ?_ (by simp <;> omega) _ | refine Blk.turn ?_ ‹_› (by omega)) (by rfl) (by kernel_rfl) (by simp [Value.oneCell']) ?_; intro wt kAn ht)
     have hb2 : Below w1.heap.size w1 wt := bturn (balloc (Below.refl _ _) _) ht (Nat.le_refl _)
     have hb02 : Below w.heap.size w wt := bstep hb01 hb2
     have hb92 := bstep hb91 hb2
     have X2 := Lib.hid (X1.out.step hb2)
     have Kx2 := Lib.hid kAn
     have Kl2 := Lib.hid (Kl1.out.step hb2)
     clear kA kAn ht X1 Kl1 hb2 hb01 hb91
     rename World => w2
     have c0 := keep1 hb92 D0.out
     have c1 := keep1 hb92 D1.out
     have c2 := keep1 hb92 D2.out
     go_wp2_with fail
     refine (HY.out _ hb02).mono ?_
     rintro _ w3 ⟨⟨ds, rfl, hy⟩, hb3⟩
     have hb03 := bstep hb02 hb3
     have hb93 := bstep hb92 hb3
     have Y3 := Lib.hid hy
     obtain ⟨oy, ky, ny, sy, qy, my, ry, By, ly, cy, rfl⟩ := hy.cells
     have kB : Blk (w3.alloc (.cells #[.int .i64 0, .int .i64 0, .int .i64 0, .int .i64 0, .string ⟨#[]⟩, .int .i64 0, .string ⟨#[]⟩, .slice none 0 0] 33)) w3.heap.size 33 #[.int .i64 0, .int .i64 0, .int .i64 0, .int .i64 0, .string ⟨#[]⟩, .int .i64 0, .string ⟨#[]⟩, .slice none 0 0] := Blk.new _ _ _
     have Kl3 := Lib.hid (Kl2.out.step hb3)
     have Kx3 := Lib.hid (Kx2.out.step hb3)
     have X3 := Lib.hid (X2.out.step hb3)
     clear c0 c1 c2 hy hb3 hb02 hb92 Kl2 Kx2 X2
     go_upto_region 8 with (refine wpList_store_blk kB rfl _ _ _ (by rfl) _ (by rfl) (by rfl) (by repeat first | with_reducible first | exact kB | apply Blk.alloc | apply Blk.drew | refine Blk.far ?_ (by simp <;> omega) _ | refine Blk.turn ?_ ‹_› (by omega)) (by rfl) (by kernel_rfl) (by simp [Value.oneCell']) ?_; intro wt kBn ht)
     have hb4 : Below w3.heap.size w3 wt := bturn (balloc (Below.refl _ _) _) ht (Nat.le_refl _)
     have hb04 : Below w.heap.size w wt := bstep hb03 hb4
     have hb94 := bstep hb93 hb4
     have X4 := Lib.hid (X3.out.step hb4)
     have Y4 := Lib.hid (Y3.out.step hb4)
     have kx := Kx3.out.step hb4
     have Ky4 := Lib.hid kBn
     have Kl4 := Lib.hid (Kl3.out.step hb4)
     clear kB kBn ht X3 Y3 Kl3 Kx3 hb4 hb03 hb93
     rename World => w4
     obtain ⟨hlu, hllu, qu0, qu1, qu2, qu3, qu4, qu5, qu6, qu7, zu0, zu1, zu2, zu3, zu4, zu5, zu6, zu7⟩ := bf8 kx; (try simp at qu0 qu1 qu2 qu3 qu4 qu5 qu6 qu7); have Hkx := Lib.hid kx; clear kx
     go_wp2_with (refine wpList_load_blk kx rfl _ _ (by rfl) (by rfl) (by (repeat first | with_reducible first | exact kx | apply Blk.alloc | apply Blk.drew | refine Blk.far ?_ (by simp <;> omega) _ | refine Blk.turn ?_ ‹_› (by omega))) _ Tryz.underlying33 rfl (by kernel_rfl) ?_)
     refine (HE.out x _ _ _ (.inl rfl) hb04 X4.out Kl4.out).mono ?_
     rintro e w5 ⟨rfl, hb5⟩
     have hb05 := bstep hb04 hb5
     have hb95 := bstep hb94 hb5
     have kR : Blk (w5.alloc (.cells #[.int .i64 0, .int .i64 0, .int .i64 0, .string ⟨#[]⟩, .int .i64 0] 25)) w5.heap.size 25 #[.int .i64 0, .int .i64 0, .int .i64 0, .string ⟨#[]⟩, .int .i64 0] := Blk.new _ _ _
     have Y5 := Lib.hid (Y4.out.step hb5)
     have Ky5 := Lib.hid (Ky4.out.step hb5)
     have Kl5 := Lib.hid (Kl4.out.step hb5)
     clear qu0 zu0 qu1 zu1 qu2 zu2 qu3 zu3 qu4 zu4 qu5 zu5 qu6 zu6 qu7 zu7 hlu hllu
     clear Hkx X4 Y4 Ky4 Kl4 hb5 hb04 hb94
     go_upto_region 9 with (refine wpList_store_blk kR rfl _ _ _ (by rfl) _ (by rfl) (by rfl) (by repeat first | with_reducible first | exact kR | apply Blk.alloc | apply Blk.drew | refine Blk.far ?_ (by simp <;> omega) _ | refine Blk.turn ?_ ‹_› (by omega)) (by rfl) (by kernel_rfl) (by simp [Value.oneCell']) ?_; intro wt kRn ht)
     have hb6 : Below w5.heap.size w5 wt := bturn (balloc (Below.refl _ _) _) ht (Nat.le_refl _)
     have hb06 : Below w.heap.size w wt := bstep hb05 hb6
     have hb96 := bstep hb95 hb6
     have Y6 := Lib.hid (Y5.out.step hb6)
     have ky' := Ky5.out.step hb6
     have Kl6 := Lib.hid (Kl5.out.step hb6)
     have Kr6 := Lib.hid kRn
     clear kR kRn ht Y5 Ky5 Kl5 hb6 hb05 hb95
     rename World => w6
     obtain ⟨hlu, hllu, qu0, qu1, qu2, qu3, qu4, qu5, qu6, qu7, zu0, zu1, zu2, zu3, zu4, zu5, zu6, zu7⟩ := bf8 ky'; (try simp at qu0 qu1 qu2 qu3 qu4 qu5 qu6 qu7); have Hky' := Lib.hid ky'; clear ky'
     go_wp2_with (refine wpList_load_blk ky' rfl _ _ (by rfl) (by rfl) (by (repeat first | with_reducible first | exact ky' | apply Blk.alloc | apply Blk.drew | refine Blk.far ?_ (by simp <;> omega) _ | refine Blk.turn ?_ ‹_› (by omega))) _ Tryz.underlying33 rfl (by kernel_rfl) ?_)
     refine (HE.out y _ _ _ (.inr rfl) hb06 Y6.out Kl6.out).mono ?_
     rintro e w7 ⟨rfl, hb7⟩
     have hb07 := bstep hb06 hb7
     have hb97 := bstep hb96 hb7
     have kS : Blk (w7.alloc (.cells #[.int .i64 0, .int .i64 0, .int .i64 0, .string ⟨#[]⟩, .int .i64 0] 25)) w7.heap.size 25 #[.int .i64 0, .int .i64 0, .int .i64 0, .string ⟨#[]⟩, .int .i64 0] := Blk.new _ _ _
     have Kr7 := Lib.hid (Kr6.out.step hb7)
     have Kl7 := Lib.hid (Kl6.out.step hb7)
     clear qu0 zu0 qu1 zu1 qu2 zu2 qu3 zu3 qu4 zu4 qu5 zu5 qu6 zu6 qu7 zu7 hlu hllu
     clear Hky' Y6 Kr6 Kl6 hb7 hb06 hb96
     go_upto_region 10 with (refine wpList_store_blk kS rfl _ _ _ (by rfl) _ (by rfl) (by rfl) (by repeat first | with_reducible first | exact kS | apply Blk.alloc | apply Blk.drew | refine Blk.far ?_ (by simp <;> omega) _ | refine Blk.turn ?_ ‹_› (by omega)) (by rfl) (by kernel_rfl) (by simp [Value.oneCell']) ?_; intro wt kSn ht)
     have hb8 : Below w7.heap.size w7 wt := bturn (balloc (Below.refl _ _) _) ht (Nat.le_refl _)
     have hb08 : Below w.heap.size w wt := bstep hb07 hb8
     have hb98 := bstep hb97 hb8
     have kr := Kr7.out.step hb8
     have ks := kSn
     have Kl8 := Lib.hid (Kl7.out.step hb8)
     clear kS kSn ht Kr7 Kl7 hb8 hb07 hb97
     rename World => w8
     have hre : (re != re) = false := by simp
     have hvq : vlq rk rn rs rq rm rk rn rs rq rm = true := by simp [vlq]
     obtain ⟨hlu, hllu, qu0, qu1, qu2, qu3, qu4, zu0, zu1, zu2, zu3, zu4⟩ := bf5 kr; (try simp at qu0 qu1 qu2 qu3 qu4); have Hkr := Lib.hid kr; clear kr
     obtain ⟨hlv, hllv, qv0, qv1, qv2, qv3, qv4, zv0, zv1, zv2, zv3, zv4⟩ := bf5 ks; (try simp at qv0 qv1 qv2 qv3 qv4); have Hks := Lib.hid ks; clear ks
     go_wp2_with fail
     go_roundw
     case rel => exact ⟨k + 1, by omega, by go_num, hb08, hb98, Kl8.out⟩
     case measure => simp [intOf]; omega
   · obtain rfl : k = 6 := by omega
     clear hlt
     go_wp2_with fail
     refine (HA.out _ hb).mono ?_
     rintro _ w1 ⟨rfl, hb1⟩
     go_wp2_with fail
     go_returns
     exact ⟨rfl, bstep hb hb1⟩
end Go.Proofs.YtapilekangmcoaaGreatDoor
