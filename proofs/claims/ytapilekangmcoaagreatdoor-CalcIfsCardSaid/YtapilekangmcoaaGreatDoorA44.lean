/- The walk of the law CalcIfs. -/
import Derived.Test.YtapilekangmcoaaGreatDoorA39
import Derived.Test.YtapilekangmcoaaGreatDoorA43
set_option linter.unusedVariables false
set_option linter.unusedSimpArgs false
set_option maxHeartbeats 8000000
set_option maxRecDepth 100000
namespace Go.Proofs.YtapilekangmcoaaGreatDoor
open Go.RowKit Go.Shelf
attribute [local go_sem high] run_vl_eql run_vl_neq
def ifX : Ex := .mk 17 zeroV [] [akN 97, akN 98, akN 99]
theorem ci_walk (ak an as' am : Int) (aq : ByteArray) (bk bn bs' bm : Int) (bq : ByteArray) (ck cn cs' cm : Int) (cq : ByteArray) (dk dn ds' dm : Int) (dq : ByteArray) (re : Int) (sa sb sc : Bool) (w : World) (HG : Hid ((sa = false → (dk = 0 ∧ dn = 0 ∧ ds' = 0 ∧ dq = ⟨#[]⟩ ∧ dm = 0 ∧ re = 2)) ∧ (sb = false → (dk = 0 ∧ dn = 0 ∧ ds' = 0 ∧ dq = ⟨#[]⟩ ∧ dm = 0 ∧ re = 2)) ∧ (sc = false → (dk = 0 ∧ dn = 0 ∧ ds' = 0 ∧ dq = ⟨#[]⟩ ∧ dm = 0 ∧ re = 2)) ∧ (sa = true → sb = true → sc = true → (vlq ak an as' aq am 3 0 0 ⟨#[]⟩ 1 = true ∧ (dk = bk ∧ dn = bn ∧ ds' = bs' ∧ dq = bq ∧ dm = bm ∧ re = 0)) ∨ (vlq ak an as' aq am 3 0 0 ⟨#[]⟩ 1 = false ∧ (dk = ck ∧ dn = cn ∧ ds' = cs' ∧ dq = cq ∧ dm = cm ∧ re = 0)))))
   (HP : Hid (∀ W, Below w.heap.size w W → Calls Tryz.prog 9 #[.string ⟨#[105, 102, 32, 97, 32, 116, 104, 101, 110, 32, 98, 32, 101, 108, 115, 101, 32, 99]⟩] W fun x w' => (∃ A c, x = .returned (.tuple #[.agg #[.int .i64 17, .int .i64 0, .int .i64 0, .int .i64 0, .string ⟨#[]⟩, .int .i64 0, .string ⟨#[]⟩, .slice A 3 c], .int .i64 0, .int .i64 0]) ∧ XM (fun _ => True) w' ifX #[.int .i64 17, .int .i64 0, .int .i64 0, .int .i64 0, .string ⟨#[]⟩, .int .i64 0, .string ⟨#[]⟩, .slice A 3 c]) ∧ Below W.heap.size W w'))
   (HE : Hid (∀ cs g W, Below w.heap.size w W → XM (fun _ => True) W ifX cs → Blk W g 27 #[.string ⟨#[97]⟩, .int .i64 ak, .int .i64 an, .int .i64 as', .string aq, .int .i64 am, .string ⟨#[98]⟩, .int .i64 bk, .int .i64 bn, .int .i64 bs', .string bq, .int .i64 bm, .string ⟨#[99]⟩, .int .i64 ck, .int .i64 cn, .int .i64 cs', .string cq, .int .i64 cm] → Calls Tryz.prog 10 #[.agg cs, .slice (some ⟨g, 0, none⟩) 3 3] W fun e w' => e = .returned (.tuple #[.agg #[.int .i64 dk, .int .i64 dn, .int .i64 ds', .string dq, .int .i64 dm], .int .i64 re]) ∧ Below W.heap.size W w'))
   (HA : Hid (∀ W, Below w.heap.size w W → Calls Tryz.prog 11 #[] W fun e w' => e = .returned (.bool true) ∧ Below W.heap.size W w'))
   (HSa : Hid (∀ W, Below w.heap.size w W → Calls Tryz.prog 22 #[.agg #[.int .i64 ak, .int .i64 an, .int .i64 as', .string aq, .int .i64 am]] W fun e w' => e = .returned (.bool sa) ∧ Below W.heap.size W w'))
   (HSb : Hid (∀ W, Below w.heap.size w W → Calls Tryz.prog 22 #[.agg #[.int .i64 bk, .int .i64 bn, .int .i64 bs', .string bq, .int .i64 bm]] W fun e w' => e = .returned (.bool sb) ∧ Below W.heap.size W w'))
   (HSc : Hid (∀ W, Below w.heap.size w W → Calls Tryz.prog 22 #[.agg #[.int .i64 ck, .int .i64 cn, .int .i64 cs', .string cq, .int .i64 cm]] W fun e w' => e = .returned (.bool sc) ∧ Below W.heap.size W w'))
   (HT : Hid (∀ W, Below w.heap.size w W → Calls Tryz.prog 21 #[.bool true] W fun e w' => e = .returned (.agg #[.int .i64 3, .int .i64 0, .int .i64 0, .string ⟨#[]⟩, .int .i64 1]) ∧ Below W.heap.size W w')) :
   Calls Tryz.prog 8 #[.agg #[.int .i64 ak, .int .i64 an, .int .i64 as', .string aq, .int .i64 am], .agg #[.int .i64 bk, .int .i64 bn, .int .i64 bs', .string bq, .int .i64 bm], .agg #[.int .i64 ck, .int .i64 cn, .int .i64 cs', .string cq, .int .i64 cm]] w fun e w' => e = .returned (.bool true) ∧ Below w.heap.size w w' := by
 have HKa0 : Hid (Blk ((((w.alloc (.cells #[.int .i64 ak, .int .i64 an, .int .i64 as', .string aq, .int .i64 am] 25)).alloc (.cells #[.int .i64 bk, .int .i64 bn, .int .i64 bs', .string bq, .int .i64 bm] 25)).alloc (.cells #[.int .i64 ck, .int .i64 cn, .int .i64 cs', .string cq, .int .i64 cm] 25)).alloc (.cells #[.string ⟨#[97]⟩, .int .i64 ak, .int .i64 an, .int .i64 as', .string aq, .int .i64 am, .string ⟨#[98]⟩, .int .i64 bk, .int .i64 bn, .int .i64 bs', .string bq, .int .i64 bm, .string ⟨#[99]⟩, .int .i64 ck, .int .i64 cn, .int .i64 cs', .string cq, .int .i64 cm] 27)) w.heap.size 25 #[.int .i64 ak, .int .i64 an, .int .i64 as', .string aq, .int .i64 am]) := Lib.hid ((((Blk.new _ _ _).alloc _).alloc _).alloc _)
 have HKb0 : Hid (Blk ((((w.alloc (.cells #[.int .i64 ak, .int .i64 an, .int .i64 as', .string aq, .int .i64 am] 25)).alloc (.cells #[.int .i64 bk, .int .i64 bn, .int .i64 bs', .string bq, .int .i64 bm] 25)).alloc (.cells #[.int .i64 ck, .int .i64 cn, .int .i64 cs', .string cq, .int .i64 cm] 25)).alloc (.cells #[.string ⟨#[97]⟩, .int .i64 ak, .int .i64 an, .int .i64 as', .string aq, .int .i64 am, .string ⟨#[98]⟩, .int .i64 bk, .int .i64 bn, .int .i64 bs', .string bq, .int .i64 bm, .string ⟨#[99]⟩, .int .i64 ck, .int .i64 cn, .int .i64 cs', .string cq, .int .i64 cm] 27)) (w.heap.size + 1) 25 #[.int .i64 bk, .int .i64 bn, .int .i64 bs', .string bq, .int .i64 bm]) := Lib.hid (((Blk.new' _ _ _ (by simp)).alloc _).alloc _)
 have HKc0 : Hid (Blk ((((w.alloc (.cells #[.int .i64 ak, .int .i64 an, .int .i64 as', .string aq, .int .i64 am] 25)).alloc (.cells #[.int .i64 bk, .int .i64 bn, .int .i64 bs', .string bq, .int .i64 bm] 25)).alloc (.cells #[.int .i64 ck, .int .i64 cn, .int .i64 cs', .string cq, .int .i64 cm] 25)).alloc (.cells #[.string ⟨#[97]⟩, .int .i64 ak, .int .i64 an, .int .i64 as', .string aq, .int .i64 am, .string ⟨#[98]⟩, .int .i64 bk, .int .i64 bn, .int .i64 bs', .string bq, .int .i64 bm, .string ⟨#[99]⟩, .int .i64 ck, .int .i64 cn, .int .i64 cs', .string cq, .int .i64 cm] 27)) (w.heap.size + 1 + 1) 25 #[.int .i64 ck, .int .i64 cn, .int .i64 cs', .string cq, .int .i64 cm]) := Lib.hid ((Blk.new' _ _ _ (by simp)).alloc _)
 have HKl0 : Hid (Blk ((((w.alloc (.cells #[.int .i64 ak, .int .i64 an, .int .i64 as', .string aq, .int .i64 am] 25)).alloc (.cells #[.int .i64 bk, .int .i64 bn, .int .i64 bs', .string bq, .int .i64 bm] 25)).alloc (.cells #[.int .i64 ck, .int .i64 cn, .int .i64 cs', .string cq, .int .i64 cm] 25)).alloc (.cells #[.string ⟨#[97]⟩, .int .i64 ak, .int .i64 an, .int .i64 as', .string aq, .int .i64 am, .string ⟨#[98]⟩, .int .i64 bk, .int .i64 bn, .int .i64 bs', .string bq, .int .i64 bm, .string ⟨#[99]⟩, .int .i64 ck, .int .i64 cn, .int .i64 cs', .string cq, .int .i64 cm] 27)) (w.heap.size + 1 + 1 + 1) 27 #[.string ⟨#[97]⟩, .int .i64 ak, .int .i64 an, .int .i64 as', .string aq, .int .i64 am, .string ⟨#[98]⟩, .int .i64 bk, .int .i64 bn, .int .i64 bs', .string bq, .int .i64 bm, .string ⟨#[99]⟩, .int .i64 ck, .int .i64 cn, .int .i64 cs', .string cq, .int .i64 cm]) := Lib.hid (Blk.new' _ _ _ (by simp))
 have hb00 : Below w.heap.size w ((((w.alloc (.cells #[.int .i64 ak, .int .i64 an, .int .i64 as', .string aq, .int .i64 am] 25)).alloc (.cells #[.int .i64 bk, .int .i64 bn, .int .i64 bs', .string bq, .int .i64 bm] 25)).alloc (.cells #[.int .i64 ck, .int .i64 cn, .int .i64 cs', .string cq, .int .i64 cm] 25)).alloc (.cells #[.string ⟨#[97]⟩, .int .i64 ak, .int .i64 an, .int .i64 as', .string aq, .int .i64 am, .string ⟨#[98]⟩, .int .i64 bk, .int .i64 bn, .int .i64 bs', .string bq, .int .i64 bm, .string ⟨#[99]⟩, .int .i64 ck, .int .i64 cn, .int .i64 cs', .string cq, .int .i64 cm] 27)) := by (repeat' first | (with_reducible first | exact .refl _ _ | assumption | apply balloc | apply Below.drew | apply bset | refine bstep ?_ ‹_› | refine bturn ?_ ‹_› ?_) | go_size)
 go_enter Tryz.func8, Tryz.ntmps8
 go_upto_region 2 with fail
 generalize ((((w.alloc (.cells #[.int .i64 ak, .int .i64 an, .int .i64 as', .string aq, .int .i64 am] 25)).alloc (.cells #[.int .i64 bk, .int .i64 bn, .int .i64 bs', .string bq, .int .i64 bm] 25)).alloc (.cells #[.int .i64 ck, .int .i64 cn, .int .i64 cs', .string cq, .int .i64 cm] 25)).alloc (.cells #[.string ⟨#[97]⟩, .int .i64 ak, .int .i64 an, .int .i64 as', .string aq, .int .i64 am, .string ⟨#[98]⟩, .int .i64 bk, .int .i64 bn, .int .i64 bs', .string bq, .int .i64 bm, .string ⟨#[99]⟩, .int .i64 ck, .int .i64 cn, .int .i64 cs', .string cq, .int .i64 cm] 27)) = w0 at *
 have Ka0 := HKa0
 have Kb0 := HKb0
 have Kc0 := HKc0
 have Kl0 := HKl0
 clear HKa0 HKb0 HKc0 HKl0
 go_wp2_with fail
 refine (HP.out _ hb00).mono ?_
 rintro x w1 ⟨⟨A, cc, rfl, hx⟩, hb1⟩
 have hb01 := bstep hb00 hb1
 have kA : Blk (w1.alloc (.cells #[.int .i64 0, .int .i64 0, .int .i64 0, .int .i64 0, .string ⟨#[]⟩, .int .i64 0, .string ⟨#[]⟩, .slice none 0 0] 33)) w1.heap.size 33 #[.int .i64 0, .int .i64 0, .int .i64 0, .int .i64 0, .string ⟨#[]⟩, .int .i64 0, .string ⟨#[]⟩, .slice none 0 0] := Blk.new _ _ _
 have Ka1 := Lib.hid (Ka0.out.step hb1)
 have Kb1 := Lib.hid (Kb0.out.step hb1)
 have Kc1 := Lib.hid (Kc0.out.step hb1)
 have Kl1 := Lib.hid (Kl0.out.step hb1)
 clear Ka0 Kb0 Kc0 Kl0
 have X1 := Lib.hid hx
 clear hx HP hb1 hb00
 go_upto_region 3 with (refine wpList_store_blk kA rfl _ _ _ (by rfl) _ (by rfl) (by rfl) (by repeat first | with_reducible first | exact kA | apply Blk.alloc | apply Blk.drew | refine Blk.far ?_ (by simp <;> omega) _ | refine Blk.turn ?_ ‹_› (by omega)) (by rfl) (by kernel_rfl) (by simp [Value.oneCell']) ?_; intro wt kAn ht)
 have hb2 : Below w1.heap.size w1 wt := bturn (balloc (Below.refl _ _) _) ht (Nat.le_refl _)
 have hb02 : Below w.heap.size w wt := bstep hb01 hb2
 have X2 := Lib.hid (X1.out.step hb2)
 have kx := kAn
 have Ka2 := Lib.hid (Ka1.out.step hb2)
 have Kb2 := Lib.hid (Kb1.out.step hb2)
 have Kc2 := Lib.hid (Kc1.out.step hb2)
 have Kl2 := Lib.hid (Kl1.out.step hb2)
 clear Ka1 Kb1 Kc1 Kl1
 clear kA ht X1 kAn hb2 hb01
 rename World => w2
 obtain ⟨hlu, hllu, qu0, qu1, qu2, qu3, qu4, qu5, qu6, qu7, zu0, zu1, zu2, zu3, zu4, zu5, zu6, zu7⟩ := bf8 kx; (try simp at qu0 qu1 qu2 qu3 qu4 qu5 qu6 qu7); have Hkx := Lib.hid kx; clear kx
 go_wp2_with (refine wpList_load_blk kx rfl _ _ (by rfl) (by rfl) (by (repeat first | with_reducible first | exact kx | apply Blk.alloc | apply Blk.drew | refine Blk.far ?_ (by simp <;> omega) _ | refine Blk.turn ?_ ‹_› (by omega))) _ Tryz.underlying33 rfl (by kernel_rfl) ?_)
 refine (HE.out _ _ _ hb02 X2.out Kl2.out).mono ?_
 rintro e w3 ⟨rfl, hb3⟩
 have hb03 := bstep hb02 hb3
 have kR : Blk (w3.alloc (.cells #[.int .i64 0, .int .i64 0, .int .i64 0, .string ⟨#[]⟩, .int .i64 0] 25)) w3.heap.size 25 #[.int .i64 0, .int .i64 0, .int .i64 0, .string ⟨#[]⟩, .int .i64 0] := Blk.new _ _ _
 have Ka3 := Lib.hid (Ka2.out.step hb3)
 have Kb3 := Lib.hid (Kb2.out.step hb3)
 have Kc3 := Lib.hid (Kc2.out.step hb3)
 clear Ka2 Kb2 Kc2
 clear qu0 zu0 qu1 zu1 qu2 zu2 qu3 zu3 qu4 zu4 qu5 zu5 qu6 zu6 qu7 zu7 hlu hllu
 clear Hkx X2 Kl2 hb3 hb02
 go_upto_region 4 with (refine wpList_store_blk kR rfl _ _ _ (by rfl) _ (by rfl) (by rfl) (by repeat first | with_reducible first | exact kR | apply Blk.alloc | apply Blk.drew | refine Blk.far ?_ (by simp <;> omega) _ | refine Blk.turn ?_ ‹_› (by omega)) (by rfl) (by kernel_rfl) (by simp [Value.oneCell']) ?_; intro wt kRn ht)
 have hb4 : Below w3.heap.size w3 wt := bturn (balloc (Below.refl _ _) _) ht (Nat.le_refl _)
 have hb04 : Below w.heap.size w wt := bstep hb03 hb4
 have Ka4 := Lib.hid (Ka3.out.step hb4)
 have Kb4 := Lib.hid (Kb3.out.step hb4)
 have Kc4 := Lib.hid (Kc3.out.step hb4)
 clear Ka3 Kb3 Kc3
 have Kr4 := Lib.hid kRn
 clear kR kRn ht hb4 hb03
 rename World => w4
 go_wp2_with fail
 refine (HA.out _ hb04).mono ?_
 rintro e w5 ⟨rfl, hb5⟩
 have hb05 := bstep hb04 hb5
 have Ka5 := Lib.hid (Ka4.out.step hb5)
 have Kb5 := Lib.hid (Kb4.out.step hb5)
 have Kc5 := Lib.hid (Kc4.out.step hb5)
 have Kr5 := Lib.hid (Kr4.out.step hb5)
 clear Ka4 Kb4 Kc4 Kr4
 clear hb5 hb04
 have ka5 := Ka5.out
 obtain ⟨hla, hlla, qa0, qa1, qa2, qa3, qa4, za0, za1, za2, za3, za4⟩ := bf5 ka5; (try simp at qa0 qa1 qa2 qa3 qa4); have Hka5 := Lib.hid ka5; clear ka5
 go_wp2_with fail
 refine (HSa.out _ hb05).mono ?_
 rintro e w6 ⟨rfl, hb6⟩
 have hb06 := bstep hb05 hb6
 clear qa0 za0 qa1 za1 qa2 za2 qa3 za3 qa4 za4 hla hlla
 clear Hka5
 have Ka6 := Lib.hid (Ka5.out.step hb6)
 have Kb6 := Lib.hid (Kb5.out.step hb6)
 have Kc6 := Lib.hid (Kc5.out.step hb6)
 have Kr6 := Lib.hid (Kr5.out.step hb6)
 clear Ka5 Kb5 Kc5 Kr5
 clear hb6 hb05
 cases sa with
 | false =>
   obtain ⟨rfl, rfl, rfl, rfl, rfl, rfl⟩ := HG.out.1 (by simp)
   have kr6 := Kr6.out
   obtain ⟨hlr, hllr, qr0, qr1, qr2, qr3, qr4, zr0, zr1, zr2, zr3, zr4⟩ := bf5 kr6; (try simp at qr0 qr1 qr2 qr3 qr4); have Hkr6 := Lib.hid kr6; clear kr6
   go_wp2_with fail
   go_returns
   exact ⟨by simp [vlq], hb06⟩
 | true =>
   have kb6 := Kb6.out
   obtain ⟨hlb, hllb, qb0, qb1, qb2, qb3, qb4, zb0, zb1, zb2, zb3, zb4⟩ := bf5 kb6; (try simp at qb0 qb1 qb2 qb3 qb4); have Hkb6 := Lib.hid kb6; clear kb6
   go_wp2_with fail
   refine (HSb.out _ hb06).mono ?_
   rintro e w7 ⟨rfl, hb7⟩
   have hb07 := bstep hb06 hb7
   clear qb0 zb0 qb1 zb1 qb2 zb2 qb3 zb3 qb4 zb4 hlb hllb
   clear Hkb6
   have Ka7 := Lib.hid (Ka6.out.step hb7)
   have Kb7 := Lib.hid (Kb6.out.step hb7)
   have Kc7 := Lib.hid (Kc6.out.step hb7)
   have Kr7 := Lib.hid (Kr6.out.step hb7)
   clear Ka6 Kb6 Kc6 Kr6
   clear hb7 hb06
   cases sb with
   | false =>
     obtain ⟨rfl, rfl, rfl, rfl, rfl, rfl⟩ := HG.out.2.1 (by simp)
     have kr7 := Kr7.out
     obtain ⟨hlr, hllr, qr0, qr1, qr2, qr3, qr4, zr0, zr1, zr2, zr3, zr4⟩ := bf5 kr7; (try simp at qr0 qr1 qr2 qr3 qr4); have Hkr7 := Lib.hid kr7; clear kr7
     go_wp2_with fail
     go_returns
     exact ⟨by simp [vlq], hb07⟩
   | true =>
     have kc7 := Kc7.out
     obtain ⟨hlc, hllc, qc0, qc1, qc2, qc3, qc4, zc0, zc1, zc2, zc3, zc4⟩ := bf5 kc7; (try simp at qc0 qc1 qc2 qc3 qc4); have Hkc7 := Lib.hid kc7; clear kc7
     go_wp2_with fail
     refine (HSc.out _ hb07).mono ?_
     rintro e w8 ⟨rfl, hb8⟩
     have hb08 := bstep hb07 hb8
     clear qc0 zc0 qc1 zc1 qc2 zc2 qc3 zc3 qc4 zc4 hlc hllc
     clear Hkc7
     have Ka8 := Lib.hid (Ka7.out.step hb8)
     have Kb8 := Lib.hid (Kb7.out.step hb8)
     have Kc8 := Lib.hid (Kc7.out.step hb8)
     have Kr8 := Lib.hid (Kr7.out.step hb8)
     clear Ka7 Kb7 Kc7 Kr7
     clear hb8 hb07
     cases sc with
     | false =>
       obtain ⟨rfl, rfl, rfl, rfl, rfl, rfl⟩ := HG.out.2.2.1 (by simp)
       have kr8 := Kr8.out
       obtain ⟨hlr, hllr, qr0, qr1, qr2, qr3, qr4, zr0, zr1, zr2, zr3, zr4⟩ := bf5 kr8; (try simp at qr0 qr1 qr2 qr3 qr4); have Hkr8 := Lib.hid kr8; clear kr8
       go_wp2_with fail
       go_returns
       exact ⟨by simp [vlq], hb08⟩
     | true =>
       rcases HG.out.2.2.2 (by simp) (by simp) (by simp) with ⟨he, rfl, rfl, rfl, rfl, rfl, rfl⟩ | ⟨he, rfl, rfl, rfl, rfl, rfl, rfl⟩
       · skip
         have ka8 := Ka8.out
         obtain ⟨hla, hlla, qa0, qa1, qa2, qa3, qa4, za0, za1, za2, za3, za4⟩ := bf5 ka8; (try simp at qa0 qa1 qa2 qa3 qa4); have Hka8 := Lib.hid ka8; clear ka8
         go_upto_region 8 with fail
         go_cut [59] (fun z wx => z = .bool true ∧ Below w8.heap.size w8 wx)
         case first =>
           go_region_held3 (fun w' => (w'.cell? ⟨w.heap.size, 0, none⟩ = some (.int .i64 ak)) ∧ (w'.cell? ⟨w.heap.size, 1, none⟩ = some (.int .i64 an)) ∧ (w'.cell? ⟨w.heap.size, 2, none⟩ = some (.int .i64 as')) ∧ (w'.cell? ⟨w.heap.size, 3, none⟩ = some (.string aq)) ∧ (w'.cell? ⟨w.heap.size, 4, none⟩ = some (.int .i64 am))) ((first | (simp [*, World.cell?_alloc_some, World.cell?_setCell_far]; done) | (go_split_ands; (repeat' apply And.intro) <;> first | assumption | exact keep1 (by assumption) (by assumption) | (simp [go_sem]; done) | (repeat (first | (with_reducible assumption) | (with_reducible refine keepd ?_) | (with_reducible refine keepa2 ?_)))))) ((go_at_call 21; refine (HT.out _ (by first | exact hb08 | exact bdrewN hb08 _ | (refine bdrewN ?_ _; exact hb08))).mono ?_; rintro e wq ⟨rfl, hbq⟩; obtain ⟨hcq, hfq⟩ := bcell hbq; have hzq := hbq.size))
           all_goals
             go_wp2_with fail
             go_meet
             case rel => exact ⟨by first | rfl | simp [he], by (repeat' first | (with_reducible first | apply bdrewN | exact .refl _ _ | assumption | apply balloc | apply Below.drew | apply bset | refine bstep ?_ ‹_› | refine bturn ?_ ‹_› ?_) | go_size)⟩
         case rest =>
           obtain ⟨rfl, hb9⟩ := hcut
           rename World => w9
           have hb09 := bstep hb08 hb9
           clear qa0 za0 qa1 za1 qa2 za2 qa3 za3 qa4 za4 hla hlla
           clear Hka8
           have Ka9 := Lib.hid (Ka8.out.step hb9)
           have Kb9 := Lib.hid (Kb8.out.step hb9)
           have Kc9 := Lib.hid (Kc8.out.step hb9)
           have Kr9 := Lib.hid (Kr8.out.step hb9)
           clear Ka8 Kb8 Kc8 Kr8
           have kr9 := Kr9.out
           obtain ⟨hlr, hllr, qr0, qr1, qr2, qr3, qr4, zr0, zr1, zr2, zr3, zr4⟩ := bf5 kr9; (try simp at qr0 qr1 qr2 qr3 qr4); have Hkr9 := Lib.hid kr9; clear kr9
           have kb9 := Kb9.out
           obtain ⟨hlb, hllb, qb0, qb1, qb2, qb3, qb4, zb0, zb1, zb2, zb3, zb4⟩ := bf5 kb9; (try simp at qb0 qb1 qb2 qb3 qb4); have Hkb9 := Lib.hid kb9; clear kb9
           go_wp2_with fail
           go_returns
           exact ⟨by simp [vlq], hb09⟩
       · skip
         have ka8 := Ka8.out
         obtain ⟨hla, hlla, qa0, qa1, qa2, qa3, qa4, za0, za1, za2, za3, za4⟩ := bf5 ka8; (try simp at qa0 qa1 qa2 qa3 qa4); have Hka8 := Lib.hid ka8; clear ka8
         go_upto_region 8 with fail
         go_cut [59] (fun z wx => z = .bool false ∧ Below w8.heap.size w8 wx)
         case first =>
           go_region_held3 (fun w' => (w'.cell? ⟨w.heap.size, 0, none⟩ = some (.int .i64 ak)) ∧ (w'.cell? ⟨w.heap.size, 1, none⟩ = some (.int .i64 an)) ∧ (w'.cell? ⟨w.heap.size, 2, none⟩ = some (.int .i64 as')) ∧ (w'.cell? ⟨w.heap.size, 3, none⟩ = some (.string aq)) ∧ (w'.cell? ⟨w.heap.size, 4, none⟩ = some (.int .i64 am))) ((first | (simp [*, World.cell?_alloc_some, World.cell?_setCell_far]; done) | (go_split_ands; (repeat' apply And.intro) <;> first | assumption | exact keep1 (by assumption) (by assumption) | (simp [go_sem]; done) | (repeat (first | (with_reducible assumption) | (with_reducible refine keepd ?_) | (with_reducible refine keepa2 ?_)))))) ((go_at_call 21; refine (HT.out _ (by first | exact hb08 | exact bdrewN hb08 _ | (refine bdrewN ?_ _; exact hb08))).mono ?_; rintro e wq ⟨rfl, hbq⟩; obtain ⟨hcq, hfq⟩ := bcell hbq; have hzq := hbq.size))
           all_goals
             go_wp2_with fail
             go_meet
             case rel => exact ⟨by first | rfl | simp [he], by (repeat' first | (with_reducible first | apply bdrewN | exact .refl _ _ | assumption | apply balloc | apply Below.drew | apply bset | refine bstep ?_ ‹_› | refine bturn ?_ ‹_› ?_) | go_size)⟩
         case rest =>
           obtain ⟨rfl, hb9⟩ := hcut
           rename World => w9
           have hb09 := bstep hb08 hb9
           clear qa0 za0 qa1 za1 qa2 za2 qa3 za3 qa4 za4 hla hlla
           clear Hka8
           have Ka9 := Lib.hid (Ka8.out.step hb9)
           have Kb9 := Lib.hid (Kb8.out.step hb9)
           have Kc9 := Lib.hid (Kc8.out.step hb9)
           have Kr9 := Lib.hid (Kr8.out.step hb9)
           clear Ka8 Kb8 Kc8 Kr8
           have kr9 := Kr9.out
           obtain ⟨hlr, hllr, qr0, qr1, qr2, qr3, qr4, zr0, zr1, zr2, zr3, zr4⟩ := bf5 kr9; (try simp at qr0 qr1 qr2 qr3 qr4); have Hkr9 := Lib.hid kr9; clear kr9
           have kc9 := Kc9.out
           obtain ⟨hlc, hllc, qc0, qc1, qc2, qc3, qc4, zc0, zc1, zc2, zc3, zc4⟩ := bf5 kc9; (try simp at qc0 qc1 qc2 qc3 qc4); have Hkc9 := Lib.hid kc9; clear kc9
           go_wp2_with fail
           go_returns
           exact ⟨by simp [vlq], hb09⟩
end Go.Proofs.YtapilekangmcoaaGreatDoor
