/- The walk of the law CalcSound where an expression is too great, has no value, or the name that comes to the list is no value's. -/
import Derived.Test.YtapilekangmcoaaGreatDoorA53
set_option linter.unusedVariables false
set_option linter.unusedSimpArgs false
set_option maxHeartbeats 8000000
set_option maxRecDepth 100000
namespace Go.Proofs.YtapilekangmcoaaGreatDoor
open Go.RowKit Go.Shelf
attribute [local go_sem high] run_vl_eql run_vl_neq
theorem so_big (o vk vn vs vm : Int) (q r : ByteArray) (B : Option Addr) (kl kc : Nat) (A : Option Addr) (N c : Nat) (nm : ByteArray) (bk bn bs' bm : Int) (bq : ByteArray) (z : Int) (hz : z < 0) (w : World)
   (KB : Hid (∀ W, Below w.heap.size w W → Calls Tryz.prog 23 #[.agg #[.int .i64 o, .int .i64 vk, .int .i64 vn, .int .i64 vs, .string q, .int .i64 vm, .string r, .slice B kl kc], .int .i64 1, .int .i64 300] W fun e w' => e = .returned (.int .i64 z) ∧ Below W.heap.size W w'))
   (HA : Hid (∀ W, Below w.heap.size w W → Calls Tryz.prog 11 #[] W fun e w' => e = .returned (.bool true) ∧ Below W.heap.size W w')) :
   Calls Tryz.prog 7 #[.agg #[.int .i64 o, .int .i64 vk, .int .i64 vn, .int .i64 vs, .string q, .int .i64 vm, .string r, .slice B kl kc], .slice A N c, .agg #[.string nm, .int .i64 bk, .int .i64 bn, .int .i64 bs', .string bq, .int .i64 bm]] w fun e w' => e = .returned (.bool true) ∧ Below w.heap.size w w' := by
 have Kx0 : Hid (Blk ((w.alloc (.cells #[.int .i64 o, .int .i64 vk, .int .i64 vn, .int .i64 vs, .string q, .int .i64 vm, .string r, .slice B kl kc] 33)).alloc (.cells #[.string nm, .int .i64 bk, .int .i64 bn, .int .i64 bs', .string bq, .int .i64 bm] 27)) w.heap.size 33 #[.int .i64 o, .int .i64 vk, .int .i64 vn, .int .i64 vs, .string q, .int .i64 vm, .string r, .slice B kl kc]) := Lib.hid ((Blk.new _ _ _).alloc _)
 have Kb0 : Hid (Blk ((w.alloc (.cells #[.int .i64 o, .int .i64 vk, .int .i64 vn, .int .i64 vs, .string q, .int .i64 vm, .string r, .slice B kl kc] 33)).alloc (.cells #[.string nm, .int .i64 bk, .int .i64 bn, .int .i64 bs', .string bq, .int .i64 bm] 27)) (w.heap.size + 1) 27 #[.string nm, .int .i64 bk, .int .i64 bn, .int .i64 bs', .string bq, .int .i64 bm]) := Lib.hid (Blk.new' _ _ _ (by simp))
 have hb00 : Below w.heap.size w ((w.alloc (.cells #[.int .i64 o, .int .i64 vk, .int .i64 vn, .int .i64 vs, .string q, .int .i64 vm, .string r, .slice B kl kc] 33)).alloc (.cells #[.string nm, .int .i64 bk, .int .i64 bn, .int .i64 bs', .string bq, .int .i64 bm] 27)) := by (repeat' first | (with_reducible first | exact .refl _ _ | assumption | apply balloc | apply Below.drew | apply bset | refine bstep ?_ ‹_› | refine bturn ?_ ‹_› ?_) | go_size)
 go_enter Tryz.func7, Tryz.ntmps7
 go_upto_region 1 with fail
 generalize ((w.alloc (.cells #[.int .i64 o, .int .i64 vk, .int .i64 vn, .int .i64 vs, .string q, .int .i64 vm, .string r, .slice B kl kc] 33)).alloc (.cells #[.string nm, .int .i64 bk, .int .i64 bn, .int .i64 bs', .string bq, .int .i64 bm] 27)) = w0 at *
 have kx0 := Kx0.out
 obtain ⟨hlu, hllu, qu0, qu1, qu2, qu3, qu4, qu5, qu6, qu7, zu0, zu1, zu2, zu3, zu4, zu5, zu6, zu7⟩ := bf8 kx0; (try simp at qu0 qu1 qu2 qu3 qu4 qu5 qu6 qu7); have Hkx0 := Lib.hid kx0; clear kx0
 go_wp2_with fail
 refine (KB.out _ hb00).mono ?_
 rintro e w1 ⟨rfl, hb1⟩
 have hb01 := bstep hb00 hb1
 have kx1 := Kx0.out.step hb1
 have Kx1 := Lib.hid kx1
 have Kb1 := Lib.hid (Kb0.out.step hb1)
 clear qu0 zu0 qu1 zu1 qu2 zu2 qu3 zu3 qu4 zu4 qu5 zu5 qu6 zu6 qu7 zu7 hlu hllu
 clear Hkx0 Kx0 Kb0 hb1 hb00 KB
 clear kx1
 go_wp2_with fail
 refine (HA.out _ hb01).mono ?_
 rintro _ w9 ⟨rfl, hb9⟩
 go_wp2_with fail
 go_returns
 exact ⟨by first | rfl | simp, bstep hb01 hb9⟩
theorem so_err (o vk vn vs vm : Int) (q r : ByteArray) (B : Option Addr) (kl kc : Nat) (A : Option Addr) (N c : Nat) (nm : ByteArray) (bk bn bs' bm : Int) (bq : ByteArray) (z : Int) (hz : ¬ z < 0) (er : Int) (he : (er != 0) = true) (ak an as' am : Int) (aq : ByteArray) (w : World)
   (KB : Hid (∀ W, Below w.heap.size w W → Calls Tryz.prog 23 #[.agg #[.int .i64 o, .int .i64 vk, .int .i64 vn, .int .i64 vs, .string q, .int .i64 vm, .string r, .slice B kl kc], .int .i64 1, .int .i64 300] W fun e w' => e = .returned (.int .i64 z) ∧ Below W.heap.size W w'))
   (HA : Hid (∀ W, Below w.heap.size w W → Calls Tryz.prog 11 #[] W fun e w' => e = .returned (.bool true) ∧ Below W.heap.size W w'))
   (KE : Hid (∀ W, Below w.heap.size w W → Calls Tryz.prog 10 #[.agg #[.int .i64 o, .int .i64 vk, .int .i64 vn, .int .i64 vs, .string q, .int .i64 vm, .string r, .slice B kl kc], .slice A N c] W fun e w' => e = .returned (.tuple #[.agg #[.int .i64 ak, .int .i64 an, .int .i64 as', .string aq, .int .i64 am], .int .i64 er]) ∧ Below W.heap.size W w')) :
   Calls Tryz.prog 7 #[.agg #[.int .i64 o, .int .i64 vk, .int .i64 vn, .int .i64 vs, .string q, .int .i64 vm, .string r, .slice B kl kc], .slice A N c, .agg #[.string nm, .int .i64 bk, .int .i64 bn, .int .i64 bs', .string bq, .int .i64 bm]] w fun e w' => e = .returned (.bool true) ∧ Below w.heap.size w w' := by
 have Kx0 : Hid (Blk ((w.alloc (.cells #[.int .i64 o, .int .i64 vk, .int .i64 vn, .int .i64 vs, .string q, .int .i64 vm, .string r, .slice B kl kc] 33)).alloc (.cells #[.string nm, .int .i64 bk, .int .i64 bn, .int .i64 bs', .string bq, .int .i64 bm] 27)) w.heap.size 33 #[.int .i64 o, .int .i64 vk, .int .i64 vn, .int .i64 vs, .string q, .int .i64 vm, .string r, .slice B kl kc]) := Lib.hid ((Blk.new _ _ _).alloc _)
 have Kb0 : Hid (Blk ((w.alloc (.cells #[.int .i64 o, .int .i64 vk, .int .i64 vn, .int .i64 vs, .string q, .int .i64 vm, .string r, .slice B kl kc] 33)).alloc (.cells #[.string nm, .int .i64 bk, .int .i64 bn, .int .i64 bs', .string bq, .int .i64 bm] 27)) (w.heap.size + 1) 27 #[.string nm, .int .i64 bk, .int .i64 bn, .int .i64 bs', .string bq, .int .i64 bm]) := Lib.hid (Blk.new' _ _ _ (by simp))
 have hb00 : Below w.heap.size w ((w.alloc (.cells #[.int .i64 o, .int .i64 vk, .int .i64 vn, .int .i64 vs, .string q, .int .i64 vm, .string r, .slice B kl kc] 33)).alloc (.cells #[.string nm, .int .i64 bk, .int .i64 bn, .int .i64 bs', .string bq, .int .i64 bm] 27)) := by (repeat' first | (with_reducible first | exact .refl _ _ | assumption | apply balloc | apply Below.drew | apply bset | refine bstep ?_ ‹_› | refine bturn ?_ ‹_› ?_) | go_size)
 go_enter Tryz.func7, Tryz.ntmps7
 go_upto_region 1 with fail
 generalize ((w.alloc (.cells #[.int .i64 o, .int .i64 vk, .int .i64 vn, .int .i64 vs, .string q, .int .i64 vm, .string r, .slice B kl kc] 33)).alloc (.cells #[.string nm, .int .i64 bk, .int .i64 bn, .int .i64 bs', .string bq, .int .i64 bm] 27)) = w0 at *
 have kx0 := Kx0.out
 obtain ⟨hlu, hllu, qu0, qu1, qu2, qu3, qu4, qu5, qu6, qu7, zu0, zu1, zu2, zu3, zu4, zu5, zu6, zu7⟩ := bf8 kx0; (try simp at qu0 qu1 qu2 qu3 qu4 qu5 qu6 qu7); have Hkx0 := Lib.hid kx0; clear kx0
 go_wp2_with fail
 refine (KB.out _ hb00).mono ?_
 rintro e w1 ⟨rfl, hb1⟩
 have hb01 := bstep hb00 hb1
 have kx1 := Kx0.out.step hb1
 have Kx1 := Lib.hid kx1
 have Kb1 := Lib.hid (Kb0.out.step hb1)
 clear qu0 zu0 qu1 zu1 qu2 zu2 qu3 zu3 qu4 zu4 qu5 zu5 qu6 zu6 qu7 zu7 hlu hllu
 clear Hkx0 Kx0 Kb0 hb1 hb00 KB
 obtain ⟨hlu, hllu, qu0, qu1, qu2, qu3, qu4, qu5, qu6, qu7, zu0, zu1, zu2, zu3, zu4, zu5, zu6, zu7⟩ := bf8 kx1; (try simp at qu0 qu1 qu2 qu3 qu4 qu5 qu6 qu7); have Hkx1 := Lib.hid kx1; clear kx1
 go_wp2_with fail
 refine (KE.out _ hb01).mono ?_
 rintro e w2 ⟨rfl, hb2⟩
 have hb02 := bstep hb01 hb2
 have kR : Blk (w2.alloc (.cells #[.int .i64 0, .int .i64 0, .int .i64 0, .string ⟨#[]⟩, .int .i64 0] 25)) w2.heap.size 25 #[.int .i64 0, .int .i64 0, .int .i64 0, .string ⟨#[]⟩, .int .i64 0] := Blk.new _ _ _
 have Kx2 := Lib.hid (Kx1.out.step hb2)
 have Kb2 := Lib.hid (Kb1.out.step hb2)
 clear qu0 zu0 qu1 zu1 qu2 zu2 qu3 zu3 qu4 zu4 qu5 zu5 qu6 zu6 qu7 zu7 hlu hllu
 clear Hkx1 Kx1 Kb1 hb2 hb01
 go_upto_region 4 with (refine wpList_store_blk kR rfl _ _ _ (by rfl) _ (by rfl) (by rfl) (by repeat first | with_reducible first | exact kR | apply Blk.alloc | apply Blk.drew | refine Blk.far ?_ (by simp <;> omega) _ | refine Blk.turn ?_ ‹_› (by omega)) (by rfl) (by kernel_rfl) (by simp [Value.oneCell']) ?_; intro wt kRn ht)
 have hb3 : Below w2.heap.size w2 wt := bturn (balloc (Below.refl _ _) _) ht (Nat.le_refl _)
 have hb03 : Below w.heap.size w wt := bstep hb02 hb3
 have Kx3 := Lib.hid (Kx2.out.step hb3)
 have Kb3 := Lib.hid (Kb2.out.step hb3)
 have Kr3 := Lib.hid kRn
 clear kR kRn ht Kx2 Kb2 hb3 hb02
 rename World => w3
 go_wp2_with fail
 refine (HA.out _ hb03).mono ?_
 rintro e w4 ⟨rfl, hb4⟩
 have hb04 := bstep hb03 hb4
 have Kx4 := Lib.hid (Kx3.out.step hb4)
 have Kb4 := Lib.hid (Kb3.out.step hb4)
 have Kr4 := Lib.hid (Kr3.out.step hb4)
 clear Kx3 Kb3 Kr3 hb4 hb03
 go_wp2_with fail
 refine (HA.out _ hb04).mono ?_
 rintro _ w9 ⟨rfl, hb9⟩
 go_wp2_with fail
 go_returns
 exact ⟨by first | rfl | simp, bstep hb04 hb9⟩
theorem so_bad (o vk vn vs vm : Int) (q r : ByteArray) (B : Option Addr) (kl kc : Nat) (A : Option Addr) (N c : Nat) (nm : ByteArray) (bk bn bs' bm : Int) (bq : ByteArray) (z : Int) (hz : ¬ z < 0) (ak an as' am : Int) (aq : ByteArray) (w : World)
   (KB : Hid (∀ W, Below w.heap.size w W → Calls Tryz.prog 23 #[.agg #[.int .i64 o, .int .i64 vk, .int .i64 vn, .int .i64 vs, .string q, .int .i64 vm, .string r, .slice B kl kc], .int .i64 1, .int .i64 300] W fun e w' => e = .returned (.int .i64 z) ∧ Below W.heap.size W w'))
   (HA : Hid (∀ W, Below w.heap.size w W → Calls Tryz.prog 11 #[] W fun e w' => e = .returned (.bool true) ∧ Below W.heap.size W w'))
   (KE : Hid (∀ W, Below w.heap.size w W → Calls Tryz.prog 10 #[.agg #[.int .i64 o, .int .i64 vk, .int .i64 vn, .int .i64 vs, .string q, .int .i64 vm, .string r, .slice B kl kc], .slice A N c] W fun e w' => e = .returned (.tuple #[.agg #[.int .i64 ak, .int .i64 an, .int .i64 as', .string aq, .int .i64 am], .int .i64 0]) ∧ Below W.heap.size W w'))
   (HS : Hid (∀ W, Below w.heap.size w W → Calls Tryz.prog 22 #[.agg #[.int .i64 bk, .int .i64 bn, .int .i64 bs', .string bq, .int .i64 bm]] W fun e w' => e = .returned (.bool false) ∧ Below W.heap.size W w')) :
   Calls Tryz.prog 7 #[.agg #[.int .i64 o, .int .i64 vk, .int .i64 vn, .int .i64 vs, .string q, .int .i64 vm, .string r, .slice B kl kc], .slice A N c, .agg #[.string nm, .int .i64 bk, .int .i64 bn, .int .i64 bs', .string bq, .int .i64 bm]] w fun e w' => e = .returned (.bool true) ∧ Below w.heap.size w w' := by
 have Kx0 : Hid (Blk ((w.alloc (.cells #[.int .i64 o, .int .i64 vk, .int .i64 vn, .int .i64 vs, .string q, .int .i64 vm, .string r, .slice B kl kc] 33)).alloc (.cells #[.string nm, .int .i64 bk, .int .i64 bn, .int .i64 bs', .string bq, .int .i64 bm] 27)) w.heap.size 33 #[.int .i64 o, .int .i64 vk, .int .i64 vn, .int .i64 vs, .string q, .int .i64 vm, .string r, .slice B kl kc]) := Lib.hid ((Blk.new _ _ _).alloc _)
 have Kb0 : Hid (Blk ((w.alloc (.cells #[.int .i64 o, .int .i64 vk, .int .i64 vn, .int .i64 vs, .string q, .int .i64 vm, .string r, .slice B kl kc] 33)).alloc (.cells #[.string nm, .int .i64 bk, .int .i64 bn, .int .i64 bs', .string bq, .int .i64 bm] 27)) (w.heap.size + 1) 27 #[.string nm, .int .i64 bk, .int .i64 bn, .int .i64 bs', .string bq, .int .i64 bm]) := Lib.hid (Blk.new' _ _ _ (by simp))
 have hb00 : Below w.heap.size w ((w.alloc (.cells #[.int .i64 o, .int .i64 vk, .int .i64 vn, .int .i64 vs, .string q, .int .i64 vm, .string r, .slice B kl kc] 33)).alloc (.cells #[.string nm, .int .i64 bk, .int .i64 bn, .int .i64 bs', .string bq, .int .i64 bm] 27)) := by (repeat' first | (with_reducible first | exact .refl _ _ | assumption | apply balloc | apply Below.drew | apply bset | refine bstep ?_ ‹_› | refine bturn ?_ ‹_› ?_) | go_size)
 go_enter Tryz.func7, Tryz.ntmps7
 go_upto_region 1 with fail
 generalize ((w.alloc (.cells #[.int .i64 o, .int .i64 vk, .int .i64 vn, .int .i64 vs, .string q, .int .i64 vm, .string r, .slice B kl kc] 33)).alloc (.cells #[.string nm, .int .i64 bk, .int .i64 bn, .int .i64 bs', .string bq, .int .i64 bm] 27)) = w0 at *
 have kx0 := Kx0.out
 obtain ⟨hlu, hllu, qu0, qu1, qu2, qu3, qu4, qu5, qu6, qu7, zu0, zu1, zu2, zu3, zu4, zu5, zu6, zu7⟩ := bf8 kx0; (try simp at qu0 qu1 qu2 qu3 qu4 qu5 qu6 qu7); have Hkx0 := Lib.hid kx0; clear kx0
 go_wp2_with fail
 refine (KB.out _ hb00).mono ?_
 rintro e w1 ⟨rfl, hb1⟩
 have hb01 := bstep hb00 hb1
 have kx1 := Kx0.out.step hb1
 have Kx1 := Lib.hid kx1
 have Kb1 := Lib.hid (Kb0.out.step hb1)
 clear qu0 zu0 qu1 zu1 qu2 zu2 qu3 zu3 qu4 zu4 qu5 zu5 qu6 zu6 qu7 zu7 hlu hllu
 clear Hkx0 Kx0 Kb0 hb1 hb00 KB
 obtain ⟨hlu, hllu, qu0, qu1, qu2, qu3, qu4, qu5, qu6, qu7, zu0, zu1, zu2, zu3, zu4, zu5, zu6, zu7⟩ := bf8 kx1; (try simp at qu0 qu1 qu2 qu3 qu4 qu5 qu6 qu7); have Hkx1 := Lib.hid kx1; clear kx1
 go_wp2_with fail
 refine (KE.out _ hb01).mono ?_
 rintro e w2 ⟨rfl, hb2⟩
 have hb02 := bstep hb01 hb2
 have kR : Blk (w2.alloc (.cells #[.int .i64 0, .int .i64 0, .int .i64 0, .string ⟨#[]⟩, .int .i64 0] 25)) w2.heap.size 25 #[.int .i64 0, .int .i64 0, .int .i64 0, .string ⟨#[]⟩, .int .i64 0] := Blk.new _ _ _
 have Kx2 := Lib.hid (Kx1.out.step hb2)
 have Kb2 := Lib.hid (Kb1.out.step hb2)
 clear qu0 zu0 qu1 zu1 qu2 zu2 qu3 zu3 qu4 zu4 qu5 zu5 qu6 zu6 qu7 zu7 hlu hllu
 clear Hkx1 Kx1 Kb1 hb2 hb01
 go_upto_region 4 with (refine wpList_store_blk kR rfl _ _ _ (by rfl) _ (by rfl) (by rfl) (by repeat first | with_reducible first | exact kR | apply Blk.alloc | apply Blk.drew | refine Blk.far ?_ (by simp <;> omega) _ | refine Blk.turn ?_ ‹_› (by omega)) (by rfl) (by kernel_rfl) (by simp [Value.oneCell']) ?_; intro wt kRn ht)
 have hb3 : Below w2.heap.size w2 wt := bturn (balloc (Below.refl _ _) _) ht (Nat.le_refl _)
 have hb03 : Below w.heap.size w wt := bstep hb02 hb3
 have Kx3 := Lib.hid (Kx2.out.step hb3)
 have Kb3 := Lib.hid (Kb2.out.step hb3)
 have Kr3 := Lib.hid kRn
 clear kR kRn ht Kx2 Kb2 hb3 hb02
 rename World => w3
 go_wp2_with fail
 refine (HA.out _ hb03).mono ?_
 rintro e w4 ⟨rfl, hb4⟩
 have hb04 := bstep hb03 hb4
 have Kx4 := Lib.hid (Kx3.out.step hb4)
 have Kb4 := Lib.hid (Kb3.out.step hb4)
 have Kr4 := Lib.hid (Kr3.out.step hb4)
 clear Kx3 Kb3 Kr3 hb4 hb03
 have kb4 := Kb4.out
 obtain ⟨hlu, hllu, qu0, qu1, qu2, qu3, qu4, qu5, zu0, zu1, zu2, zu3, zu4, zu5⟩ := bf6 kb4; (try simp at qu0 qu1 qu2 qu3 qu4 qu5); have Hkb4 := Lib.hid kb4; clear kb4
 go_wp2_with fail
 refine (HS.out _ hb04).mono ?_
 rintro e w5 ⟨rfl, hb5⟩
 have hb05 := bstep hb04 hb5
 have Kx5 := Lib.hid (Kx4.out.step hb5)
 have Kb5 := Lib.hid (Kb4.out.step hb5)
 have Kr5 := Lib.hid (Kr4.out.step hb5)
 clear qu0 zu0 qu1 zu1 qu2 zu2 qu3 zu3 qu4 zu4 qu5 zu5 hlu hllu
 clear Hkb4 Kx4 Kb4 Kr4 hb5 hb04
 go_wp2_with fail
 refine (HA.out _ hb05).mono ?_
 rintro _ w9 ⟨rfl, hb9⟩
 go_wp2_with fail
 go_returns
 exact ⟨by first | rfl | simp, bstep hb05 hb9⟩
end Go.Proofs.YtapilekangmcoaaGreatDoor
