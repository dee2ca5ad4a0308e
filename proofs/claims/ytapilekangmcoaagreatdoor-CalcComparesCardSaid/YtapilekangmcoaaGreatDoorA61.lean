/- The law CalcCompares answers true, whatever the two values are. -/
import Derived.Test.YtapilekangmcoaaGreatDoorA60
set_option linter.unusedVariables false
set_option linter.unusedSimpArgs false
set_option maxHeartbeats 8000000
set_option maxRecDepth 100000
namespace Go.Proofs.YtapilekangmcoaaGreatDoor
open Go.RowKit Go.Shelf
attribute [local go_sem high] run_vl_eql run_vl_neq
theorem vlq_self (k n s m : Int) (q : ByteArray) : vlq k n s q m k n s q m = true := by simp [vlq]
theorem cc_walk (ak an as' am bk bn bs' bm : Int) (aq bq : ByteArray) (ek en es em lk ln ls lm : Int) (eq lq : ByteArray) (w : World)
   (KE : Hid (∀ W, Below w.heap.size w W → Calls Tryz.prog 17 #[.agg #[.int .i64 ak, .int .i64 an, .int .i64 as', .string aq, .int .i64 am], .agg #[.int .i64 bk, .int .i64 bn, .int .i64 bs', .string bq, .int .i64 bm]] W fun e w' => e = .returned (.agg #[.int .i64 ek, .int .i64 en, .int .i64 es, .string eq, .int .i64 em]) ∧ Below W.heap.size W w'))
   (KR : Hid (∀ W, Below w.heap.size w W → Calls Tryz.prog 18 #[.agg #[.int .i64 ak, .int .i64 an, .int .i64 as', .string aq, .int .i64 am], .agg #[.int .i64 bk, .int .i64 bn, .int .i64 bs', .string bq, .int .i64 bm]] W fun e w' => e = .returned (.agg #[.int .i64 ek, .int .i64 en, .int .i64 es, .string eq, .int .i64 em]) ∧ Below W.heap.size W w'))
   (KL : Hid (∀ W, Below w.heap.size w W → Calls Tryz.prog 19 #[.agg #[.int .i64 ak, .int .i64 an, .int .i64 as', .string aq, .int .i64 am], .agg #[.int .i64 bk, .int .i64 bn, .int .i64 bs', .string bq, .int .i64 bm]] W fun e w' => e = .returned (.agg #[.int .i64 lk, .int .i64 ln, .int .i64 ls, .string lq, .int .i64 lm]) ∧ Below W.heap.size W w'))
   (KS : Hid (∀ W, Below w.heap.size w W → Calls Tryz.prog 20 #[.agg #[.int .i64 ak, .int .i64 an, .int .i64 as', .string aq, .int .i64 am], .agg #[.int .i64 bk, .int .i64 bn, .int .i64 bs', .string bq, .int .i64 bm]] W fun e w' => e = .returned (.agg #[.int .i64 lk, .int .i64 ln, .int .i64 ls, .string lq, .int .i64 lm]) ∧ Below W.heap.size W w'))
   (HA : Hid (∀ W, Below w.heap.size w W → Calls Tryz.prog 11 #[] W fun e w' => e = .returned (.bool true) ∧ Below W.heap.size W w')) :
   Calls Tryz.prog 5 #[.agg #[.int .i64 ak, .int .i64 an, .int .i64 as', .string aq, .int .i64 am], .agg #[.int .i64 bk, .int .i64 bn, .int .i64 bs', .string bq, .int .i64 bm]] w fun e w' => e = .returned (.bool true) ∧ Below w.heap.size w w' := by
 have Ka0 : Hid (Blk ((w.alloc (.cells #[.int .i64 ak, .int .i64 an, .int .i64 as', .string aq, .int .i64 am] 25)).alloc (.cells #[.int .i64 bk, .int .i64 bn, .int .i64 bs', .string bq, .int .i64 bm] 25)) w.heap.size 25 #[.int .i64 ak, .int .i64 an, .int .i64 as', .string aq, .int .i64 am]) := Lib.hid ((Blk.new _ _ _).alloc _)
 have Kb0 : Hid (Blk ((w.alloc (.cells #[.int .i64 ak, .int .i64 an, .int .i64 as', .string aq, .int .i64 am] 25)).alloc (.cells #[.int .i64 bk, .int .i64 bn, .int .i64 bs', .string bq, .int .i64 bm] 25)) (w.heap.size + 1) 25 #[.int .i64 bk, .int .i64 bn, .int .i64 bs', .string bq, .int .i64 bm]) := Lib.hid (Blk.new' _ _ _ (by simp))
 have hb00 : Below w.heap.size w ((w.alloc (.cells #[.int .i64 ak, .int .i64 an, .int .i64 as', .string aq, .int .i64 am] 25)).alloc (.cells #[.int .i64 bk, .int .i64 bn, .int .i64 bs', .string bq, .int .i64 bm] 25)) := by (repeat' first | (with_reducible first | exact .refl _ _ | assumption | apply balloc | apply Below.drew | apply bset | refine bstep ?_ ‹_› | refine bturn ?_ ‹_› ?_) | go_size)
 go_enter Tryz.func5, Tryz.ntmps5
 go_upto_region 1 with fail
 generalize ((w.alloc (.cells #[.int .i64 ak, .int .i64 an, .int .i64 as', .string aq, .int .i64 am] 25)).alloc (.cells #[.int .i64 bk, .int .i64 bn, .int .i64 bs', .string bq, .int .i64 bm] 25)) = w0 at *
 have KE0 := Lib.hid fun W (h : Below w0.heap.size w0 W) => KE.out W (bstep hb00 h)
 have KR0 := Lib.hid fun W (h : Below w0.heap.size w0 W) => KR.out W (bstep hb00 h)
 have KL0 := Lib.hid fun W (h : Below w0.heap.size w0 W) => KL.out W (bstep hb00 h)
 have KS0 := Lib.hid fun W (h : Below w0.heap.size w0 W) => KS.out W (bstep hb00 h)
 have HA0 := Lib.hid fun W (h : Below w0.heap.size w0 W) => HA.out W (bstep hb00 h)
 clear KE KR KL KS HA
 have ka := Ka0.out
 have kb := Kb0.out
 obtain ⟨hlu, hllu, qu0, qu1, qu2, qu3, qu4, zu0, zu1, zu2, zu3, zu4⟩ := bf5 ka; (try simp at qu0 qu1 qu2 qu3 qu4); have Hka := Lib.hid ka; clear ka
 obtain ⟨hlv, hllv, qv0, qv1, qv2, qv3, qv4, zv0, zv1, zv2, zv3, zv4⟩ := bf5 kb; (try simp at qv0 qv1 qv2 qv3 qv4); have Hkb := Lib.hid kb; clear kb
 have hs1 := vlq_self ek en es em eq
 have hs2 := vlq_self lk ln ls lm lq
 go_region_held3 (fun w' => (w'.cell? ⟨w.heap.size, 0, none⟩ = some (.int .i64 ak) ∧ w'.cell? ⟨w.heap.size, 1, none⟩ = some (.int .i64 an) ∧ w'.cell? ⟨w.heap.size, 2, none⟩ = some (.int .i64 as') ∧ w'.cell? ⟨w.heap.size, 3, none⟩ = some (.string aq) ∧ w'.cell? ⟨w.heap.size, 4, none⟩ = some (.int .i64 am)) ∧ (w'.cell? ⟨w.heap.size + 1, 0, none⟩ = some (.int .i64 bk) ∧ w'.cell? ⟨w.heap.size + 1, 1, none⟩ = some (.int .i64 bn) ∧ w'.cell? ⟨w.heap.size + 1, 2, none⟩ = some (.int .i64 bs') ∧ w'.cell? ⟨w.heap.size + 1, 3, none⟩ = some (.string bq) ∧ w'.cell? ⟨w.heap.size + 1, 4, none⟩ = some (.int .i64 bm)) ∧ Below w0.heap.size w0 w') ((go_split_ands; (repeat' apply And.intro) <;> first | assumption | exact keep1 (by assumption) (by assumption) | exact bstep (by assumption) (by assumption) | exact keepa2 (by assumption) | (repeat' first | (with_reducible first | exact .refl _ _ | assumption | apply balloc | apply Below.drew | apply bset | refine bstep ?_ ‹_› | refine bturn ?_ ‹_› ?_) | go_size)))
   (first
     | (go_at_call 17; go_split_ands; with_reducible refine (KE0.out _ (by first | assumption | (repeat' first | (with_reducible first | exact .refl _ _ | assumption | apply balloc | apply Below.drew | apply bset | refine bstep ?_ ‹_› | refine bturn ?_ ‹_› ?_) | go_size))).mono ?_; rintro e w' ⟨rfl, hb'⟩)
     | (go_at_call 18; go_split_ands; with_reducible refine (KR0.out _ (by first | assumption | (repeat' first | (with_reducible first | exact .refl _ _ | assumption | apply balloc | apply Below.drew | apply bset | refine bstep ?_ ‹_› | refine bturn ?_ ‹_› ?_) | go_size))).mono ?_; rintro e w' ⟨rfl, hb'⟩)
     | (go_at_call 19; go_split_ands; with_reducible refine (KL0.out _ (by first | assumption | (repeat' first | (with_reducible first | exact .refl _ _ | assumption | apply balloc | apply Below.drew | apply bset | refine bstep ?_ ‹_› | refine bturn ?_ ‹_› ?_) | go_size))).mono ?_; rintro e w' ⟨rfl, hb'⟩)
     | (go_at_call 20; go_split_ands; with_reducible refine (KS0.out _ (by first | assumption | (repeat' first | (with_reducible first | exact .refl _ _ | assumption | apply balloc | apply Below.drew | apply bset | refine bstep ?_ ‹_› | refine bturn ?_ ‹_› ?_) | go_size))).mono ?_; rintro e w' ⟨rfl, hb'⟩)
     | (go_at_call 11; go_split_ands; with_reducible refine (HA0.out _ (by first | assumption | (repeat' first | (with_reducible first | exact .refl _ _ | assumption | apply balloc | apply Below.drew | apply bset | refine bstep ?_ ‹_› | refine bturn ?_ ‹_› ?_) | go_size))).mono ?_; rintro e w' ⟨rfl, hb'⟩))
 all_goals
   go_split_ands
   go_wp2_with fail
   go_returns
   exact ⟨by first | rfl | simp, bstep hb00 (by first | assumption | (repeat' first | (with_reducible first | apply bdrewN | exact .refl _ _ | assumption | apply balloc | apply Below.drew | apply bset | refine bstep ?_ ‹_› | refine bturn ?_ ‹_› ?_) | go_size))⟩
theorem ccmp_any (a b : Vl) (ha : VOk a) (hb : VOk b) (m : Int) (w : World) (hw : OKW m w) (hn : NU w) :
   Calls Tryz.prog 5 #[.agg (cellsV a), .agg (cellsV b)] w fun e w' => e = .returned (.bool true) ∧ Below w.heap.size w w' :=
 cc_walk _ _ _ _ _ _ _ _ _ _ _ _ _ _ _ _ _ _ _ _ w
   (Lib.hid fun W hW => equal_vl a b ha hb m W (hw.step hW) (hn.step hW)) (Lib.hid fun W _ => r11e_vl a b ha hb W)
   (Lib.hid fun W hW => less_vl a b ha hb m W (hw.step hW) (hn.step hW)) (Lib.hid fun W _ => r11l_vl a b ha hb W)
   (Lib.hid fun W hW => calc_awake m W (hw.step hW) (hn.step hW))
end Go.Proofs.YtapilekangmcoaaGreatDoor
