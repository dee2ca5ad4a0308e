/- The walk of (scope).eval, operator by operator. -/
import Derived.Test.YtapilekangmcoaaGreatDoorA23
import Derived.Test.YtapilekangmcoaaGreatDoorA26
import Derived.Test.YtapilekangmcoaaGreatDoorA22
set_option linter.unusedVariables false
set_option linter.unusedSimpArgs false
set_option maxHeartbeats 8000000
set_option maxRecDepth 100000
namespace Go.Proofs.YtapilekangmcoaaGreatDoor
open Go.RowKit Go.Shelf
theorem ev_val (vk vn vs vm : Int) (q r : ByteArray) (A : Option Addr) (N c : Nat) (B : Option Addr) (kl kc : Nat) (w : World) :
   Calls Tryz.prog 34 #[.slice A N c, .agg #[.int .i64 1, .int .i64 vk, .int .i64 vn, .int .i64 vs, .string q, .int .i64 vm, .string r, .slice B kl kc]] w fun e w' => e = .returned (.agg #[.int .i64 vk, .int .i64 vn, .int .i64 vs, .string q, .int .i64 vm]) ∧ Below w.heap.size w w' := by
 have k0 : Blk ((w.alloc (.cells #[.int .i64 1, .int .i64 vk, .int .i64 vn, .int .i64 vs, .string q, .int .i64 vm, .string r, .slice B kl kc] 33)).alloc (.cells #[.int .i64 0, .int .i64 0, .int .i64 0, .string ⟨#[]⟩, .int .i64 0] 25)) w.heap.size 33 #[.int .i64 1, .int .i64 vk, .int .i64 vn, .int .i64 vs, .string q, .int .i64 vm, .string r, .slice B kl kc] := (Blk.new _ _ _).alloc _
 have r0 : Blk ((w.alloc (.cells #[.int .i64 1, .int .i64 vk, .int .i64 vn, .int .i64 vs, .string q, .int .i64 vm, .string r, .slice B kl kc] 33)).alloc (.cells #[.int .i64 0, .int .i64 0, .int .i64 0, .string ⟨#[]⟩, .int .i64 0] 25)) (w.heap.size + 1) 25 #[.int .i64 0, .int .i64 0, .int .i64 0, .string ⟨#[]⟩, .int .i64 0] := Blk.new' _ _ _ (by simp)
 have K0 := Lib.hid k0
 have R0 := Lib.hid r0
 go_enter Tryz.func34, Tryz.ntmps34
 obtain ⟨hlu, hllu, qu0, qu1, qu2, qu3, qu4, qu5, qu6, qu7, zu0, zu1, zu2, zu3, zu4, zu5, zu6, zu7⟩ := bf8 k0; (try simp at qu0 qu1 qu2 qu3 qu4 qu5 qu6 qu7); have Hk0 := Lib.hid k0; clear k0
 go_wp2_with (refine wpList_store_blk r0 rfl _ _ _ (by rfl) _ (by rfl) (by rfl) (by repeat first | with_reducible first | exact r0 | apply Blk.alloc | apply Blk.drew | refine Blk.far ?_ (by simp <;> omega) _ | refine Blk.turn ?_ ‹_› (by omega)) (by rfl) (by kernel_rfl) (by simp [Value.oneCell']) ?_; intro wt r0n ht)
 refine ret_blk rfl r0n rfl Tryz.underlying25 rfl (by kernel_rfl) rfl ?_
 exact ⟨rfl, bturn (by (repeat' first | (with_reducible first | exact .refl _ _ | assumption | apply balloc | apply Below.drew | apply bset | refine bstep ?_ ‹_› | refine bturn ?_ ‹_› ?_) | go_size)) ht (by omega)⟩
theorem ev_name (vk vn vs vm : Int) (q r : ByteArray) (g off k N c : Nat) (nb : ByteArray) (bk bn bs' bm : Int) (bq : ByteArray) (B : Option Addr) (kl kc : Nat) (hk : k < N) (hN : (N : Int) ≤ 9223372036854775807) (w : World) (b0 : w.cell? ⟨g, off + k * 6, none⟩ = some (.string nb)) (b1 : w.cell? ⟨g, off + k * 6 + 1, none⟩ = some (.int .i64 bk)) (b2 : w.cell? ⟨g, off + k * 6 + 2, none⟩ = some (.int .i64 bn)) (b3 : w.cell? ⟨g, off + k * 6 + 3, none⟩ = some (.int .i64 bs')) (b4 : w.cell? ⟨g, off + k * 6 + 4, none⟩ = some (.string bq)) (b5 : w.cell? ⟨g, off + k * 6 + 5, none⟩ = some (.int .i64 bm))
   (KI : Hid (∀ D W, Below w.heap.size w W → W.cell? ⟨D, 6, none⟩ = some (.string r) → Calls Tryz.prog 56 #[.slice (some ⟨g, off, none⟩) N c, .func (.func 57) #[] #[.pointer (some ⟨D, 0, none⟩)]] W fun e w' => e = .returned (.int .i64 (k : Int)) ∧ Below W.heap.size W w')) :
   Calls Tryz.prog 34 #[.slice (some ⟨g, off, none⟩) N c, .agg #[.int .i64 2, .int .i64 vk, .int .i64 vn, .int .i64 vs, .string q, .int .i64 vm, .string r, .slice B kl kc]] w fun e w' => e = .returned (.agg #[.int .i64 bk, .int .i64 bn, .int .i64 bs', .string bq, .int .i64 bm]) ∧ Below w.heap.size w w' := by
 have k0 : Blk ((w.alloc (.cells #[.int .i64 2, .int .i64 vk, .int .i64 vn, .int .i64 vs, .string q, .int .i64 vm, .string r, .slice B kl kc] 33)).alloc (.cells #[.int .i64 0, .int .i64 0, .int .i64 0, .string ⟨#[]⟩, .int .i64 0] 25)) w.heap.size 33 #[.int .i64 2, .int .i64 vk, .int .i64 vn, .int .i64 vs, .string q, .int .i64 vm, .string r, .slice B kl kc] := (Blk.new _ _ _).alloc _
 have r0 : Blk ((w.alloc (.cells #[.int .i64 2, .int .i64 vk, .int .i64 vn, .int .i64 vs, .string q, .int .i64 vm, .string r, .slice B kl kc] 33)).alloc (.cells #[.int .i64 0, .int .i64 0, .int .i64 0, .string ⟨#[]⟩, .int .i64 0] 25)) (w.heap.size + 1) 25 #[.int .i64 0, .int .i64 0, .int .i64 0, .string ⟨#[]⟩, .int .i64 0] := Blk.new' _ _ _ (by simp)
 have K0 := Lib.hid k0
 have R0 := Lib.hid r0
 have Y0 := Lib.hid b0
 have Y1 := Lib.hid b1
 have Y2 := Lib.hid b2
 have Y3 := Lib.hid b3
 have Y4 := Lib.hid b4
 have Y5 := Lib.hid b5
 clear b0 b1 b2 b3 b4 b5
 have hki : (k : Int) < (N : Int) := by omega
 have hk0 : ¬ (k : Int) < 0 := by omega
 go_enter Tryz.func34, Tryz.ntmps34
 obtain ⟨hlu, hllu, qu0, qu1, qu2, qu3, qu4, qu5, qu6, qu7, zu0, zu1, zu2, zu3, zu4, zu5, zu6, zu7⟩ := bf8 k0; (try simp at qu0 qu1 qu2 qu3 qu4 qu5 qu6 qu7); have Hk0 := Lib.hid k0; clear k0
 go_wp2_with fail
 refine (KI.out _ _ (by (repeat' first | (with_reducible first | exact .refl _ _ | assumption | apply balloc | apply Below.drew | apply bset | refine bstep ?_ ‹_› | refine bturn ?_ ‹_› ?_) | go_size)) (by simp)).mono ?_
 rintro e w1 ⟨rfl, hb1⟩
 have hb01 : Below w.heap.size w w1 := by (repeat' first | (with_reducible first | exact .refl _ _ | assumption | apply balloc | apply Below.drew | apply bset | refine bstep ?_ ‹_› | refine bturn ?_ ‹_› ?_) | go_size)
 have r1 := R0.out.step hb1
 have b0 := keep1 hb01 Y0.out
 have b1 := keep1 hb01 Y1.out
 have b2 := keep1 hb01 Y2.out
 have b3 := keep1 hb01 Y3.out
 have b4 := keep1 hb01 Y4.out
 have b5 := keep1 hb01 Y5.out
 clear qu0 zu0 qu1 zu1 qu2 zu2 qu3 zu3 qu4 zu4 qu5 zu5 qu6 zu6 qu7 zu7 hlu hllu
 go_wp2_with (refine wpList_store_blk r1 rfl _ _ _ (by rfl) _ (by rfl) (by rfl) (by repeat first | with_reducible first | exact r1 | apply Blk.alloc | apply Blk.drew | refine Blk.far ?_ (by simp <;> omega) _ | refine Blk.turn ?_ ‹_› (by omega)) (by rfl) (by kernel_rfl) (by simp [Value.oneCell']) ?_; intro wt r1n ht)
 refine ret_blk rfl r1n rfl Tryz.underlying25 rfl (by kernel_rfl) rfl ?_
 exact ⟨rfl, bturn hb01 ht (by omega)⟩
theorem ev_if_true (vk vn vs vm : Int) (q r : ByteArray) (A : Option Addr) (N c : Nat) (g off : Nat) (kc : Nat) (koa kka kna ksa kma : Int) (kqa kra : ByteArray) (kBa : Option Addr) (kla kca : Nat) (kob kkb knb ksb kmb : Int) (kqb krb : ByteArray) (kBb : Option Addr) (klb kcb : Nat) (ak an as' am : Int) (aq : ByteArray) (bk bn bs' bm : Int) (bq : ByteArray) (w : World) (ya0 : w.cell? ⟨g, off, none⟩ = some (.int .i64 koa)) (ya1 : w.cell? ⟨g, off + 1, none⟩ = some (.int .i64 kka)) (ya2 : w.cell? ⟨g, off + 2, none⟩ = some (.int .i64 kna)) (ya3 : w.cell? ⟨g, off + 3, none⟩ = some (.int .i64 ksa)) (ya4 : w.cell? ⟨g, off + 4, none⟩ = some (.string kqa)) (ya5 : w.cell? ⟨g, off + 5, none⟩ = some (.int .i64 kma)) (ya6 : w.cell? ⟨g, off + 6, none⟩ = some (.string kra)) (ya7 : w.cell? ⟨g, off + 7, none⟩ = some (.slice kBa kla kca)) (yb0 : w.cell? ⟨g, off + 8, none⟩ = some (.int .i64 kob)) (yb1 : w.cell? ⟨g, off + 8 + 1, none⟩ = some (.int .i64 kkb)) (yb2 : w.cell? ⟨g, off + 8 + 2, none⟩ = some (.int .i64 knb)) (yb3 : w.cell? ⟨g, off + 8 + 3, none⟩ = some (.int .i64 ksb)) (yb4 : w.cell? ⟨g, off + 8 + 4, none⟩ = some (.string kqb)) (yb5 : w.cell? ⟨g, off + 8 + 5, none⟩ = some (.int .i64 kmb)) (yb6 : w.cell? ⟨g, off + 8 + 6, none⟩ = some (.string krb)) (yb7 : w.cell? ⟨g, off + 8 + 7, none⟩ = some (.slice kBb klb kcb))
   (KEa : Hid (∀ W, Below w.heap.size w W → Calls Tryz.prog 34 #[.slice A N c, .agg #[.int .i64 koa, .int .i64 kka, .int .i64 kna, .int .i64 ksa, .string kqa, .int .i64 kma, .string kra, .slice kBa kla kca]] W fun e w' => e = .returned (.agg #[.int .i64 ak, .int .i64 an, .int .i64 as', .string aq, .int .i64 am]) ∧ Below W.heap.size W w'))
   (KS : Hid (∀ W, Below w.heap.size w W → Calls Tryz.prog 58 #[.agg #[.int .i64 ak, .int .i64 an, .int .i64 as', .string aq, .int .i64 am]] W fun e w' => e = .returned (.bool true) ∧ Below W.heap.size W w'))
   (KEb : Hid (∀ W, Below w.heap.size w W → Calls Tryz.prog 34 #[.slice A N c, .agg #[.int .i64 kob, .int .i64 kkb, .int .i64 knb, .int .i64 ksb, .string kqb, .int .i64 kmb, .string krb, .slice kBb klb kcb]] W fun e w' => e = .returned (.agg #[.int .i64 bk, .int .i64 bn, .int .i64 bs', .string bq, .int .i64 bm]) ∧ Below W.heap.size W w')) :
   Calls Tryz.prog 34 #[.slice A N c, .agg #[.int .i64 17, .int .i64 vk, .int .i64 vn, .int .i64 vs, .string q, .int .i64 vm, .string r, .slice (some ⟨g, off, none⟩) 3 kc]] w fun e w' => e = .returned (.agg #[.int .i64 bk, .int .i64 bn, .int .i64 bs', .string bq, .int .i64 bm]) ∧ Below w.heap.size w w' := by
 have k0 : Blk ((w.alloc (.cells #[.int .i64 17, .int .i64 vk, .int .i64 vn, .int .i64 vs, .string q, .int .i64 vm, .string r, .slice (some ⟨g, off, none⟩) 3 kc] 33)).alloc (.cells #[.int .i64 0, .int .i64 0, .int .i64 0, .string ⟨#[]⟩, .int .i64 0] 25)) w.heap.size 33 #[.int .i64 17, .int .i64 vk, .int .i64 vn, .int .i64 vs, .string q, .int .i64 vm, .string r, .slice (some ⟨g, off, none⟩) 3 kc] := (Blk.new _ _ _).alloc _
 have r0 : Blk ((w.alloc (.cells #[.int .i64 17, .int .i64 vk, .int .i64 vn, .int .i64 vs, .string q, .int .i64 vm, .string r, .slice (some ⟨g, off, none⟩) 3 kc] 33)).alloc (.cells #[.int .i64 0, .int .i64 0, .int .i64 0, .string ⟨#[]⟩, .int .i64 0] 25)) (w.heap.size + 1) 25 #[.int .i64 0, .int .i64 0, .int .i64 0, .string ⟨#[]⟩, .int .i64 0] := Blk.new' _ _ _ (by simp)
 have K0 := Lib.hid k0
 have R0 := Lib.hid r0
 have Ya0 := Lib.hid ya0
 have Ya1 := Lib.hid ya1
 have Ya2 := Lib.hid ya2
 have Ya3 := Lib.hid ya3
 have Ya4 := Lib.hid ya4
 have Ya5 := Lib.hid ya5
 have Ya6 := Lib.hid ya6
 have Ya7 := Lib.hid ya7
 have Yb0 := Lib.hid yb0
 have Yb1 := Lib.hid yb1
 have Yb2 := Lib.hid yb2
 have Yb3 := Lib.hid yb3
 have Yb4 := Lib.hid yb4
 have Yb5 := Lib.hid yb5
 have Yb6 := Lib.hid yb6
 have Yb7 := Lib.hid yb7
 clear ya0 ya1 ya2 ya3 ya4 ya5 ya6 ya7
 clear yb0 yb1 yb2 yb3 yb4 yb5 yb6 yb7
 have hb00 : Below w.heap.size w ((w.alloc (.cells #[.int .i64 17, .int .i64 vk, .int .i64 vn, .int .i64 vs, .string q, .int .i64 vm, .string r, .slice (some ⟨g, off, none⟩) 3 kc] 33)).alloc (.cells #[.int .i64 0, .int .i64 0, .int .i64 0, .string ⟨#[]⟩, .int .i64 0] 25)) := by (repeat' first | (with_reducible first | exact .refl _ _ | assumption | apply balloc | apply Below.drew | apply bset | refine bstep ?_ ‹_› | refine bturn ?_ ‹_› ?_) | go_size)
 have ya0 := keep1 hb00 Ya0.out
 have ya1 := keep1 hb00 Ya1.out
 have ya2 := keep1 hb00 Ya2.out
 have ya3 := keep1 hb00 Ya3.out
 have ya4 := keep1 hb00 Ya4.out
 have ya5 := keep1 hb00 Ya5.out
 have ya6 := keep1 hb00 Ya6.out
 have ya7 := keep1 hb00 Ya7.out
 go_enter Tryz.func34, Tryz.ntmps34
 obtain ⟨hlu, hllu, qu0, qu1, qu2, qu3, qu4, qu5, qu6, qu7, zu0, zu1, zu2, zu3, zu4, zu5, zu6, zu7⟩ := bf8 k0; (try simp at qu0 qu1 qu2 qu3 qu4 qu5 qu6 qu7); have Hk0 := Lib.hid k0; clear k0
 go_wp2_with fail
 refine (KEa.out _ hb00).mono ?_
 rintro e w1 ⟨rfl, hb1⟩
 have hb01 := bstep hb00 hb1
 have K1 := Lib.hid (K0.out.step hb1)
 have R1 := Lib.hid (R0.out.step hb1)
 clear K0 R0 Hk0 hb1 hb00
 clear ya0 ya1 ya2 ya3 ya4 ya5 ya6 ya7
 clear qu0 zu0 qu1 zu1 qu2 zu2 qu3 zu3 qu4 zu4 qu5 zu5 qu6 zu6 qu7 zu7 hlu hllu
 go_wp2_with fail
 refine (KS.out _ hb01).mono ?_
 rintro e w2 ⟨rfl, hb2⟩
 have hb02 := bstep hb01 hb2
 have k2 := K1.out.step hb2
 have R2 := Lib.hid (R1.out.step hb2)
 have yb0 := keep1 hb02 Yb0.out
 have yb1 := keep1 hb02 Yb1.out
 have yb2 := keep1 hb02 Yb2.out
 have yb3 := keep1 hb02 Yb3.out
 have yb4 := keep1 hb02 Yb4.out
 have yb5 := keep1 hb02 Yb5.out
 have yb6 := keep1 hb02 Yb6.out
 have yb7 := keep1 hb02 Yb7.out
 clear K1 R1 hb2 hb01
 obtain ⟨hlu, hllu, qu0, qu1, qu2, qu3, qu4, qu5, qu6, qu7, zu0, zu1, zu2, zu3, zu4, zu5, zu6, zu7⟩ := bf8 k2; (try simp at qu0 qu1 qu2 qu3 qu4 qu5 qu6 qu7); have Hk2 := Lib.hid k2; clear k2
 go_wp2_with fail
 refine (KEb.out _ hb02).mono ?_
 rintro e w3 ⟨rfl, hb3⟩
 have hb03 := bstep hb02 hb3
 have r3 := R2.out.step hb3
 clear yb0 yb1 yb2 yb3 yb4 yb5 yb6 yb7
 clear qu0 zu0 qu1 zu1 qu2 zu2 qu3 zu3 qu4 zu4 qu5 zu5 qu6 zu6 qu7 zu7 hlu hllu
 go_wp2_with (refine wpList_store_blk r3 rfl _ _ _ (by rfl) _ (by rfl) (by rfl) (by repeat first | with_reducible first | exact r3 | apply Blk.alloc | apply Blk.drew | refine Blk.far ?_ (by simp <;> omega) _ | refine Blk.turn ?_ ‹_› (by omega)) (by rfl) (by kernel_rfl) (by simp [Value.oneCell']) ?_; intro wt r3n ht)
 refine ret_blk rfl r3n rfl Tryz.underlying25 rfl (by kernel_rfl) rfl ?_
 exact ⟨rfl, bturn hb03 ht (by omega)⟩
theorem ev_if_false (vk vn vs vm : Int) (q r : ByteArray) (A : Option Addr) (N c : Nat) (g off : Nat) (kc : Nat) (koa kka kna ksa kma : Int) (kqa kra : ByteArray) (kBa : Option Addr) (kla kca : Nat) (kod kkd knd ksd kmd : Int) (kqd krd : ByteArray) (kBd : Option Addr) (kld kcd : Nat) (ak an as' am : Int) (aq : ByteArray) (bk bn bs' bm : Int) (bq : ByteArray) (w : World) (ya0 : w.cell? ⟨g, off, none⟩ = some (.int .i64 koa)) (ya1 : w.cell? ⟨g, off + 1, none⟩ = some (.int .i64 kka)) (ya2 : w.cell? ⟨g, off + 2, none⟩ = some (.int .i64 kna)) (ya3 : w.cell? ⟨g, off + 3, none⟩ = some (.int .i64 ksa)) (ya4 : w.cell? ⟨g, off + 4, none⟩ = some (.string kqa)) (ya5 : w.cell? ⟨g, off + 5, none⟩ = some (.int .i64 kma)) (ya6 : w.cell? ⟨g, off + 6, none⟩ = some (.string kra)) (ya7 : w.cell? ⟨g, off + 7, none⟩ = some (.slice kBa kla kca)) (yd0 : w.cell? ⟨g, off + 16, none⟩ = some (.int .i64 kod)) (yd1 : w.cell? ⟨g, off + 16 + 1, none⟩ = some (.int .i64 kkd)) (yd2 : w.cell? ⟨g, off + 16 + 2, none⟩ = some (.int .i64 knd)) (yd3 : w.cell? ⟨g, off + 16 + 3, none⟩ = some (.int .i64 ksd)) (yd4 : w.cell? ⟨g, off + 16 + 4, none⟩ = some (.string kqd)) (yd5 : w.cell? ⟨g, off + 16 + 5, none⟩ = some (.int .i64 kmd)) (yd6 : w.cell? ⟨g, off + 16 + 6, none⟩ = some (.string krd)) (yd7 : w.cell? ⟨g, off + 16 + 7, none⟩ = some (.slice kBd kld kcd))
   (KEa : Hid (∀ W, Below w.heap.size w W → Calls Tryz.prog 34 #[.slice A N c, .agg #[.int .i64 koa, .int .i64 kka, .int .i64 kna, .int .i64 ksa, .string kqa, .int .i64 kma, .string kra, .slice kBa kla kca]] W fun e w' => e = .returned (.agg #[.int .i64 ak, .int .i64 an, .int .i64 as', .string aq, .int .i64 am]) ∧ Below W.heap.size W w'))
   (KS : Hid (∀ W, Below w.heap.size w W → Calls Tryz.prog 58 #[.agg #[.int .i64 ak, .int .i64 an, .int .i64 as', .string aq, .int .i64 am]] W fun e w' => e = .returned (.bool false) ∧ Below W.heap.size W w'))
   (KEd : Hid (∀ W, Below w.heap.size w W → Calls Tryz.prog 34 #[.slice A N c, .agg #[.int .i64 kod, .int .i64 kkd, .int .i64 knd, .int .i64 ksd, .string kqd, .int .i64 kmd, .string krd, .slice kBd kld kcd]] W fun e w' => e = .returned (.agg #[.int .i64 bk, .int .i64 bn, .int .i64 bs', .string bq, .int .i64 bm]) ∧ Below W.heap.size W w')) :
   Calls Tryz.prog 34 #[.slice A N c, .agg #[.int .i64 17, .int .i64 vk, .int .i64 vn, .int .i64 vs, .string q, .int .i64 vm, .string r, .slice (some ⟨g, off, none⟩) 3 kc]] w fun e w' => e = .returned (.agg #[.int .i64 bk, .int .i64 bn, .int .i64 bs', .string bq, .int .i64 bm]) ∧ Below w.heap.size w w' := by
 have k0 : Blk ((w.alloc (.cells #[.int .i64 17, .int .i64 vk, .int .i64 vn, .int .i64 vs, .string q, .int .i64 vm, .string r, .slice (some ⟨g, off, none⟩) 3 kc] 33)).alloc (.cells #[.int .i64 0, .int .i64 0, .int .i64 0, .string ⟨#[]⟩, .int .i64 0] 25)) w.heap.size 33 #[.int .i64 17, .int .i64 vk, .int .i64 vn, .int .i64 vs, .string q, .int .i64 vm, .string r, .slice (some ⟨g, off, none⟩) 3 kc] := (Blk.new _ _ _).alloc _
 have r0 : Blk ((w.alloc (.cells #[.int .i64 17, .int .i64 vk, .int .i64 vn, .int .i64 vs, .string q, .int .i64 vm, .string r, .slice (some ⟨g, off, none⟩) 3 kc] 33)).alloc (.cells #[.int .i64 0, .int .i64 0, .int .i64 0, .string ⟨#[]⟩, .int .i64 0] 25)) (w.heap.size + 1) 25 #[.int .i64 0, .int .i64 0, .int .i64 0, .string ⟨#[]⟩, .int .i64 0] := Blk.new' _ _ _ (by simp)
 have K0 := Lib.hid k0
 have R0 := Lib.hid r0
 have Ya0 := Lib.hid ya0
 have Ya1 := Lib.hid ya1
 have Ya2 := Lib.hid ya2
 have Ya3 := Lib.hid ya3
 have Ya4 := Lib.hid ya4
 have Ya5 := Lib.hid ya5
 have Ya6 := Lib.hid ya6
 have Ya7 := Lib.hid ya7
 have Yd0 := Lib.hid yd0
 have Yd1 := Lib.hid yd1
 have Yd2 := Lib.hid yd2
 have Yd3 := Lib.hid yd3
 have Yd4 := Lib.hid yd4
 have Yd5 := Lib.hid yd5
 have Yd6 := Lib.hid yd6
 have Yd7 := Lib.hid yd7
 clear ya0 ya1 ya2 ya3 ya4 ya5 ya6 ya7
 clear yd0 yd1 yd2 yd3 yd4 yd5 yd6 yd7
 have hb00 : Below w.heap.size w ((w.alloc (.cells #[.int .i64 17, .int .i64 vk, .int .i64 vn, .int .i64 vs, .string q, .int .i64 vm, .string r, .slice (some ⟨g, off, none⟩) 3 kc] 33)).alloc (.cells #[.int .i64 0, .int .i64 0, .int .i64 0, .string ⟨#[]⟩, .int .i64 0] 25)) := by (repeat' first | (with_reducible first | exact .refl _ _ | assumption | apply balloc | apply Below.drew | apply bset | refine bstep ?_ ‹_› | refine bturn ?_ ‹_› ?_) | go_size)
 have ya0 := keep1 hb00 Ya0.out
 have ya1 := keep1 hb00 Ya1.out
 have ya2 := keep1 hb00 Ya2.out
 have ya3 := keep1 hb00 Ya3.out
 have ya4 := keep1 hb00 Ya4.out
 have ya5 := keep1 hb00 Ya5.out
 have ya6 := keep1 hb00 Ya6.out
 have ya7 := keep1 hb00 Ya7.out
 go_enter Tryz.func34, Tryz.ntmps34
 obtain ⟨hlu, hllu, qu0, qu1, qu2, qu3, qu4, qu5, qu6, qu7, zu0, zu1, zu2, zu3, zu4, zu5, zu6, zu7⟩ := bf8 k0; (try simp at qu0 qu1 qu2 qu3 qu4 qu5 qu6 qu7); have Hk0 := Lib.hid k0; clear k0
 go_wp2_with fail
 refine (KEa.out _ hb00).mono ?_
 rintro e w1 ⟨rfl, hb1⟩
 have hb01 := bstep hb00 hb1
 have K1 := Lib.hid (K0.out.step hb1)
 have R1 := Lib.hid (R0.out.step hb1)
 clear K0 R0 Hk0 hb1 hb00
 clear ya0 ya1 ya2 ya3 ya4 ya5 ya6 ya7
 clear qu0 zu0 qu1 zu1 qu2 zu2 qu3 zu3 qu4 zu4 qu5 zu5 qu6 zu6 qu7 zu7 hlu hllu
 go_wp2_with fail
 refine (KS.out _ hb01).mono ?_
 rintro e w2 ⟨rfl, hb2⟩
 have hb02 := bstep hb01 hb2
 have k2 := K1.out.step hb2
 have R2 := Lib.hid (R1.out.step hb2)
 have yd0 := keep1 hb02 Yd0.out
 have yd1 := keep1 hb02 Yd1.out
 have yd2 := keep1 hb02 Yd2.out
 have yd3 := keep1 hb02 Yd3.out
 have yd4 := keep1 hb02 Yd4.out
 have yd5 := keep1 hb02 Yd5.out
 have yd6 := keep1 hb02 Yd6.out
 have yd7 := keep1 hb02 Yd7.out
 clear K1 R1 hb2 hb01
 obtain ⟨hlu, hllu, qu0, qu1, qu2, qu3, qu4, qu5, qu6, qu7, zu0, zu1, zu2, zu3, zu4, zu5, zu6, zu7⟩ := bf8 k2; (try simp at qu0 qu1 qu2 qu3 qu4 qu5 qu6 qu7); have Hk2 := Lib.hid k2; clear k2
 go_wp2_with fail
 refine (KEd.out _ hb02).mono ?_
 rintro e w3 ⟨rfl, hb3⟩
 have hb03 := bstep hb02 hb3
 have r3 := R2.out.step hb3
 clear yd0 yd1 yd2 yd3 yd4 yd5 yd6 yd7
 clear qu0 zu0 qu1 zu1 qu2 zu2 qu3 zu3 qu4 zu4 qu5 zu5 qu6 zu6 qu7 zu7 hlu hllu
 go_wp2_with (refine wpList_store_blk r3 rfl _ _ _ (by rfl) _ (by rfl) (by rfl) (by repeat first | with_reducible first | exact r3 | apply Blk.alloc | apply Blk.drew | refine Blk.far ?_ (by simp <;> omega) _ | refine Blk.turn ?_ ‹_› (by omega)) (by rfl) (by kernel_rfl) (by simp [Value.oneCell']) ?_; intro wt r3n ht)
 refine ret_blk rfl r3n rfl Tryz.underlying25 rfl (by kernel_rfl) rfl ?_
 exact ⟨rfl, bturn hb03 ht (by omega)⟩
theorem ev_neg (vk vn vs vm : Int) (q r : ByteArray) (A : Option Addr) (N c : Nat) (g off : Nat) (kc : Nat) (koa kka kna ksa kma : Int) (kqa kra : ByteArray) (kBa : Option Addr) (kla kca : Nat) (ak an as' am : Int) (aq : ByteArray) (bk bn bs' bm : Int) (bq : ByteArray) (w : World) (ya0 : w.cell? ⟨g, off, none⟩ = some (.int .i64 koa)) (ya1 : w.cell? ⟨g, off + 1, none⟩ = some (.int .i64 kka)) (ya2 : w.cell? ⟨g, off + 2, none⟩ = some (.int .i64 kna)) (ya3 : w.cell? ⟨g, off + 3, none⟩ = some (.int .i64 ksa)) (ya4 : w.cell? ⟨g, off + 4, none⟩ = some (.string kqa)) (ya5 : w.cell? ⟨g, off + 5, none⟩ = some (.int .i64 kma)) (ya6 : w.cell? ⟨g, off + 6, none⟩ = some (.string kra)) (ya7 : w.cell? ⟨g, off + 7, none⟩ = some (.slice kBa kla kca))
   (KEa : Hid (∀ W, Below w.heap.size w W → Calls Tryz.prog 34 #[.slice A N c, .agg #[.int .i64 koa, .int .i64 kka, .int .i64 kna, .int .i64 ksa, .string kqa, .int .i64 kma, .string kra, .slice kBa kla kca]] W fun e w' => e = .returned (.agg #[.int .i64 ak, .int .i64 an, .int .i64 as', .string aq, .int .i64 am]) ∧ Below W.heap.size W w'))
   (KR : Hid (∀ W, Below w.heap.size w W → Calls Tryz.prog 59 #[.int .i64 5, .agg #[.int .i64 1, .int .i64 0, .int .i64 0, .string ⟨#[]⟩, .int .i64 0], .agg #[.int .i64 ak, .int .i64 an, .int .i64 as', .string aq, .int .i64 am]] W fun e w' => e = .returned (.agg #[.int .i64 bk, .int .i64 bn, .int .i64 bs', .string bq, .int .i64 bm]) ∧ Below W.heap.size W w')) :
   Calls Tryz.prog 34 #[.slice A N c, .agg #[.int .i64 3, .int .i64 vk, .int .i64 vn, .int .i64 vs, .string q, .int .i64 vm, .string r, .slice (some ⟨g, off, none⟩) 1 kc]] w fun e w' => e = .returned (.agg #[.int .i64 bk, .int .i64 bn, .int .i64 bs', .string bq, .int .i64 bm]) ∧ Below w.heap.size w w' := by
 have k0 : Blk ((w.alloc (.cells #[.int .i64 3, .int .i64 vk, .int .i64 vn, .int .i64 vs, .string q, .int .i64 vm, .string r, .slice (some ⟨g, off, none⟩) 1 kc] 33)).alloc (.cells #[.int .i64 0, .int .i64 0, .int .i64 0, .string ⟨#[]⟩, .int .i64 0] 25)) w.heap.size 33 #[.int .i64 3, .int .i64 vk, .int .i64 vn, .int .i64 vs, .string q, .int .i64 vm, .string r, .slice (some ⟨g, off, none⟩) 1 kc] := (Blk.new _ _ _).alloc _
 have r0 : Blk ((w.alloc (.cells #[.int .i64 3, .int .i64 vk, .int .i64 vn, .int .i64 vs, .string q, .int .i64 vm, .string r, .slice (some ⟨g, off, none⟩) 1 kc] 33)).alloc (.cells #[.int .i64 0, .int .i64 0, .int .i64 0, .string ⟨#[]⟩, .int .i64 0] 25)) (w.heap.size + 1) 25 #[.int .i64 0, .int .i64 0, .int .i64 0, .string ⟨#[]⟩, .int .i64 0] := Blk.new' _ _ _ (by simp)
 have K0 := Lib.hid k0
 have R0 := Lib.hid r0
 have Ya0 := Lib.hid ya0
 have Ya1 := Lib.hid ya1
 have Ya2 := Lib.hid ya2
 have Ya3 := Lib.hid ya3
 have Ya4 := Lib.hid ya4
 have Ya5 := Lib.hid ya5
 have Ya6 := Lib.hid ya6
 have Ya7 := Lib.hid ya7
 clear ya0 ya1 ya2 ya3 ya4 ya5 ya6 ya7
 have hb00 : Below w.heap.size w ((w.alloc (.cells #[.int .i64 3, .int .i64 vk, .int .i64 vn, .int .i64 vs, .string q, .int .i64 vm, .string r, .slice (some ⟨g, off, none⟩) 1 kc] 33)).alloc (.cells #[.int .i64 0, .int .i64 0, .int .i64 0, .string ⟨#[]⟩, .int .i64 0] 25)) := by (repeat' first | (with_reducible first | exact .refl _ _ | assumption | apply balloc | apply Below.drew | apply bset | refine bstep ?_ ‹_› | refine bturn ?_ ‹_› ?_) | go_size)
 have ya0 := keep1 hb00 Ya0.out
 have ya1 := keep1 hb00 Ya1.out
 have ya2 := keep1 hb00 Ya2.out
 have ya3 := keep1 hb00 Ya3.out
 have ya4 := keep1 hb00 Ya4.out
 have ya5 := keep1 hb00 Ya5.out
 have ya6 := keep1 hb00 Ya6.out
 have ya7 := keep1 hb00 Ya7.out
 go_enter Tryz.func34, Tryz.ntmps34
 obtain ⟨hlu, hllu, qu0, qu1, qu2, qu3, qu4, qu5, qu6, qu7, zu0, zu1, zu2, zu3, zu4, zu5, zu6, zu7⟩ := bf8 k0; (try simp at qu0 qu1 qu2 qu3 qu4 qu5 qu6 qu7); have Hk0 := Lib.hid k0; clear k0
 go_wp2_with fail
 refine (KEa.out _ hb00).mono ?_
 rintro e w1 ⟨rfl, hb1⟩
 have hb01 := bstep hb00 hb1
 have K1 := Lib.hid ((K0.out.step hb1).alloc (.cells #[.int .i64 0, .int .i64 0, .int .i64 0, .string ⟨#[]⟩, .int .i64 0] 25))
 have R1 := Lib.hid ((R0.out.step hb1).alloc (.cells #[.int .i64 0, .int .i64 0, .int .i64 0, .string ⟨#[]⟩, .int .i64 0] 25))
 have a1 : Blk (w1.alloc (.cells #[.int .i64 0, .int .i64 0, .int .i64 0, .string ⟨#[]⟩, .int .i64 0] 25)) w1.heap.size 25 #[.int .i64 0, .int .i64 0, .int .i64 0, .string ⟨#[]⟩, .int .i64 0] := Blk.new _ _ _
 have hs1 := R1.out.lt
 have hk1 := K1.out.lt
 have hw1 : w.heap.size + 1 < w1.heap.size := (R0.out.step hb1).lt
 clear K0 R0 Hk0 hb1 hb00
 clear ya0 ya1 ya2 ya3 ya4 ya5 ya6 ya7
 clear qu0 zu0 qu1 zu1 qu2 zu2 qu3 zu3 qu4 zu4 qu5 zu5 qu6 zu6 qu7 zu7 hlu hllu
 go_upto_region 12 with (refine wpList_store_blk a1 rfl _ _ _ (by rfl) _ (by rfl) (by rfl) (by repeat first | with_reducible first | exact a1 | apply Blk.alloc | apply Blk.drew | refine Blk.far ?_ (by simp <;> omega) _ | refine Blk.turn ?_ ‹_› (by omega)) (by rfl) (by kernel_rfl) (by simp [Value.oneCell']) ?_; intro wt a1n ht)
 have hb02 : Below w.heap.size w wt := bturn (balloc hb01 _) ht (by omega)
 have k2 := K1.out.turn ht (by omega)
 have K2 := Lib.hid k2
 have R2 := Lib.hid (R1.out.turn ht (by omega))
 have a2 := a1n
 have A2 := Lib.hid a2
 clear K1 R1 a1 a1n ht hb01 hs1 hk1
 rename World => w2
 have hal2 := A2.out.lt
 obtain ⟨hlu, hllu, qu0, qu1, qu2, qu3, qu4, qu5, qu6, qu7, zu0, zu1, zu2, zu3, zu4, zu5, zu6, zu7⟩ := bf8 k2; (try simp at qu0 qu1 qu2 qu3 qu4 qu5 qu6 qu7); have Hk2 := Lib.hid k2; clear k2
 obtain ⟨hlv, hllv, qv0, qv1, qv2, qv3, qv4, zv0, zv1, zv2, zv3, zv4⟩ := bf5 a2; (try simp at qv0 qv1 qv2 qv3 qv4); have Ha2 := Lib.hid a2; clear a2
 go_wp2_with fail
 refine (KR.out _ hb02).mono ?_
 rintro e w3 ⟨rfl, hb3⟩
 have hb03 := bstep hb02 hb3
 have r3 := R2.out.step hb3
 clear qu0 zu0 qv0 zv0
 go_wp2_with (refine wpList_store_blk r3 rfl _ _ _ (by rfl) _ (by rfl) (by rfl) (by repeat first | with_reducible first | exact r3 | apply Blk.alloc | apply Blk.drew | refine Blk.far ?_ (by simp <;> omega) _ | refine Blk.turn ?_ ‹_› (by omega)) (by rfl) (by kernel_rfl) (by simp [Value.oneCell']) ?_; intro wt r3n ht)
 refine ret_blk rfl r3n rfl Tryz.underlying25 rfl (by kernel_rfl) rfl ?_
 exact ⟨rfl, bturn hb03 ht (by omega)⟩
theorem ev_not (vk vn vs vm : Int) (q r : ByteArray) (A : Option Addr) (N c : Nat) (g off : Nat) (kc : Nat) (koa kka kna ksa kma : Int) (kqa kra : ByteArray) (kBa : Option Addr) (kla kca : Nat) (ak an as' am : Int) (aq : ByteArray) (bk bn bs' bm : Int) (bq : ByteArray) (w : World) (ya0 : w.cell? ⟨g, off, none⟩ = some (.int .i64 koa)) (ya1 : w.cell? ⟨g, off + 1, none⟩ = some (.int .i64 kka)) (ya2 : w.cell? ⟨g, off + 2, none⟩ = some (.int .i64 kna)) (ya3 : w.cell? ⟨g, off + 3, none⟩ = some (.int .i64 ksa)) (ya4 : w.cell? ⟨g, off + 4, none⟩ = some (.string kqa)) (ya5 : w.cell? ⟨g, off + 5, none⟩ = some (.int .i64 kma)) (ya6 : w.cell? ⟨g, off + 6, none⟩ = some (.string kra)) (ya7 : w.cell? ⟨g, off + 7, none⟩ = some (.slice kBa kla kca))
   (KEa : Hid (∀ W, Below w.heap.size w W → Calls Tryz.prog 34 #[.slice A N c, .agg #[.int .i64 koa, .int .i64 kka, .int .i64 kna, .int .i64 ksa, .string kqa, .int .i64 kma, .string kra, .slice kBa kla kca]] W fun e w' => e = .returned (.agg #[.int .i64 ak, .int .i64 an, .int .i64 as', .string aq, .int .i64 am]) ∧ Below W.heap.size W w'))
   (KR : Hid (∀ W, Below w.heap.size w W → Calls Tryz.prog 60 #[.agg #[.int .i64 ak, .int .i64 an, .int .i64 as', .string aq, .int .i64 am]] W fun e w' => e = .returned (.agg #[.int .i64 bk, .int .i64 bn, .int .i64 bs', .string bq, .int .i64 bm]) ∧ Below W.heap.size W w')) :
   Calls Tryz.prog 34 #[.slice A N c, .agg #[.int .i64 16, .int .i64 vk, .int .i64 vn, .int .i64 vs, .string q, .int .i64 vm, .string r, .slice (some ⟨g, off, none⟩) 1 kc]] w fun e w' => e = .returned (.agg #[.int .i64 bk, .int .i64 bn, .int .i64 bs', .string bq, .int .i64 bm]) ∧ Below w.heap.size w w' := by
 have k0 : Blk ((w.alloc (.cells #[.int .i64 16, .int .i64 vk, .int .i64 vn, .int .i64 vs, .string q, .int .i64 vm, .string r, .slice (some ⟨g, off, none⟩) 1 kc] 33)).alloc (.cells #[.int .i64 0, .int .i64 0, .int .i64 0, .string ⟨#[]⟩, .int .i64 0] 25)) w.heap.size 33 #[.int .i64 16, .int .i64 vk, .int .i64 vn, .int .i64 vs, .string q, .int .i64 vm, .string r, .slice (some ⟨g, off, none⟩) 1 kc] := (Blk.new _ _ _).alloc _
 have r0 : Blk ((w.alloc (.cells #[.int .i64 16, .int .i64 vk, .int .i64 vn, .int .i64 vs, .string q, .int .i64 vm, .string r, .slice (some ⟨g, off, none⟩) 1 kc] 33)).alloc (.cells #[.int .i64 0, .int .i64 0, .int .i64 0, .string ⟨#[]⟩, .int .i64 0] 25)) (w.heap.size + 1) 25 #[.int .i64 0, .int .i64 0, .int .i64 0, .string ⟨#[]⟩, .int .i64 0] := Blk.new' _ _ _ (by simp)
 have K0 := Lib.hid k0
 have R0 := Lib.hid r0
 have Ya0 := Lib.hid ya0
 have Ya1 := Lib.hid ya1
 have Ya2 := Lib.hid ya2
 have Ya3 := Lib.hid ya3
 have Ya4 := Lib.hid ya4
 have Ya5 := Lib.hid ya5
 have Ya6 := Lib.hid ya6
 have Ya7 := Lib.hid ya7
 clear ya0 ya1 ya2 ya3 ya4 ya5 ya6 ya7
 have hb00 : Below w.heap.size w ((w.alloc (.cells #[.int .i64 16, .int .i64 vk, .int .i64 vn, .int .i64 vs, .string q, .int .i64 vm, .string r, .slice (some ⟨g, off, none⟩) 1 kc] 33)).alloc (.cells #[.int .i64 0, .int .i64 0, .int .i64 0, .string ⟨#[]⟩, .int .i64 0] 25)) := by (repeat' first | (with_reducible first | exact .refl _ _ | assumption | apply balloc | apply Below.drew | apply bset | refine bstep ?_ ‹_› | refine bturn ?_ ‹_› ?_) | go_size)
 have ya0 := keep1 hb00 Ya0.out
 have ya1 := keep1 hb00 Ya1.out
 have ya2 := keep1 hb00 Ya2.out
 have ya3 := keep1 hb00 Ya3.out
 have ya4 := keep1 hb00 Ya4.out
 have ya5 := keep1 hb00 Ya5.out
 have ya6 := keep1 hb00 Ya6.out
 have ya7 := keep1 hb00 Ya7.out
 go_enter Tryz.func34, Tryz.ntmps34
 obtain ⟨hlu, hllu, qu0, qu1, qu2, qu3, qu4, qu5, qu6, qu7, zu0, zu1, zu2, zu3, zu4, zu5, zu6, zu7⟩ := bf8 k0; (try simp at qu0 qu1 qu2 qu3 qu4 qu5 qu6 qu7); have Hk0 := Lib.hid k0; clear k0
 go_wp2_with fail
 refine (KEa.out _ hb00).mono ?_
 rintro e w1 ⟨rfl, hb1⟩
 have hb01 := bstep hb00 hb1
 have K1 := Lib.hid ((K0.out.step hb1).alloc (.cells #[.int .i64 0, .int .i64 0, .int .i64 0, .string ⟨#[]⟩, .int .i64 0] 25))
 have R1 := Lib.hid ((R0.out.step hb1).alloc (.cells #[.int .i64 0, .int .i64 0, .int .i64 0, .string ⟨#[]⟩, .int .i64 0] 25))
 have a1 : Blk (w1.alloc (.cells #[.int .i64 0, .int .i64 0, .int .i64 0, .string ⟨#[]⟩, .int .i64 0] 25)) w1.heap.size 25 #[.int .i64 0, .int .i64 0, .int .i64 0, .string ⟨#[]⟩, .int .i64 0] := Blk.new _ _ _
 have hs1 := R1.out.lt
 have hk1 := K1.out.lt
 have hw1 : w.heap.size + 1 < w1.heap.size := (R0.out.step hb1).lt
 clear K0 R0 Hk0 hb1 hb00
 clear ya0 ya1 ya2 ya3 ya4 ya5 ya6 ya7
 clear qu0 zu0 qu1 zu1 qu2 zu2 qu3 zu3 qu4 zu4 qu5 zu5 qu6 zu6 qu7 zu7 hlu hllu
 go_upto_region 12 with (refine wpList_store_blk a1 rfl _ _ _ (by rfl) _ (by rfl) (by rfl) (by repeat first | with_reducible first | exact a1 | apply Blk.alloc | apply Blk.drew | refine Blk.far ?_ (by simp <;> omega) _ | refine Blk.turn ?_ ‹_› (by omega)) (by rfl) (by kernel_rfl) (by simp [Value.oneCell']) ?_; intro wt a1n ht)
 have hb02 : Below w.heap.size w wt := bturn (balloc hb01 _) ht (by omega)
 have k2 := K1.out.turn ht (by omega)
 have K2 := Lib.hid k2
 have R2 := Lib.hid (R1.out.turn ht (by omega))
 have a2 := a1n
 have A2 := Lib.hid a2
 clear K1 R1 a1 a1n ht hb01 hs1 hk1
 rename World => w2
 have hal2 := A2.out.lt
 obtain ⟨hlu, hllu, qu0, qu1, qu2, qu3, qu4, qu5, qu6, qu7, zu0, zu1, zu2, zu3, zu4, zu5, zu6, zu7⟩ := bf8 k2; (try simp at qu0 qu1 qu2 qu3 qu4 qu5 qu6 qu7); have Hk2 := Lib.hid k2; clear k2
 obtain ⟨hlv, hllv, qv0, qv1, qv2, qv3, qv4, zv0, zv1, zv2, zv3, zv4⟩ := bf5 a2; (try simp at qv0 qv1 qv2 qv3 qv4); have Ha2 := Lib.hid a2; clear a2
 go_wp2_with fail
 refine (KR.out _ hb02).mono ?_
 rintro e w3 ⟨rfl, hb3⟩
 have hb03 := bstep hb02 hb3
 have r3 := R2.out.step hb3
 clear qu0 zu0 qv0 zv0
 go_wp2_with (refine wpList_store_blk r3 rfl _ _ _ (by rfl) _ (by rfl) (by rfl) (by repeat first | with_reducible first | exact r3 | apply Blk.alloc | apply Blk.drew | refine Blk.far ?_ (by simp <;> omega) _ | refine Blk.turn ?_ ‹_› (by omega)) (by rfl) (by kernel_rfl) (by simp [Value.oneCell']) ?_; intro wt r3n ht)
 refine ret_blk rfl r3n rfl Tryz.underlying25 rfl (by kernel_rfl) rfl ?_
 exact ⟨rfl, bturn hb03 ht (by omega)⟩
theorem binS_8 (a b : Vl) : binS 8 a b = eqC a b := by simp [binS]
theorem binS_9 (a b : Vl) : binS 9 a b = notC (eqC a b) := by simp [binS]
theorem binS_10 (a b : Vl) : binS 10 a b = lessC a b := by simp [binS]
theorem binS_12 (a b : Vl) : binS 12 a b = lessC b a := by simp [binS]
theorem binS_11 (a b : Vl) : binS 11 a b = notC (lessC b a) := by simp [binS]
theorem binS_13 (a b : Vl) : binS 13 a b = notC (lessC a b) := by simp [binS]
theorem binS_14 (a b : Vl) : binS 14 a b = all2 true a b := by simp [binS]
theorem binS_15 (a b : Vl) : binS 15 a b = all2 false a b := by simp [binS]
theorem binS_o {o : Int} (a b : Vl) (h8 : ¬ o = 8) (h9 : ¬ o = 9) (h10 : ¬ o = 10) (h11 : ¬ o = 11) (h12 : ¬ o = 12) (h13 : ¬ o = 13) (h14 : ¬ o = 14) (h15 : ¬ o = 15) : binS o a b = reckS o a b := by simp [binS, h8, h9, h10, h11, h12, h13, h14, h15]
theorem ev_two (o : Int) (h4 : 4 ≤ o) (h15 : o ≤ 15) (vk vn vs vm : Int) (q r : ByteArray) (A : Option Addr) (N c : Nat) (g off : Nat) (kc : Nat) (koa kka kna ksa kma : Int) (kqa kra : ByteArray) (kBa : Option Addr) (kla kca : Nat) (kob kkb knb ksb kmb : Int) (kqb krb : ByteArray) (kBb : Option Addr) (klb kcb : Nat) (a b R : Vl) (hR : binS o a b = R) (w : World) (ya0 : w.cell? ⟨g, off, none⟩ = some (.int .i64 koa)) (ya1 : w.cell? ⟨g, off + 1, none⟩ = some (.int .i64 kka)) (ya2 : w.cell? ⟨g, off + 2, none⟩ = some (.int .i64 kna)) (ya3 : w.cell? ⟨g, off + 3, none⟩ = some (.int .i64 ksa)) (ya4 : w.cell? ⟨g, off + 4, none⟩ = some (.string kqa)) (ya5 : w.cell? ⟨g, off + 5, none⟩ = some (.int .i64 kma)) (ya6 : w.cell? ⟨g, off + 6, none⟩ = some (.string kra)) (ya7 : w.cell? ⟨g, off + 7, none⟩ = some (.slice kBa kla kca)) (yb0 : w.cell? ⟨g, off + 8, none⟩ = some (.int .i64 kob)) (yb1 : w.cell? ⟨g, off + 8 + 1, none⟩ = some (.int .i64 kkb)) (yb2 : w.cell? ⟨g, off + 8 + 2, none⟩ = some (.int .i64 knb)) (yb3 : w.cell? ⟨g, off + 8 + 3, none⟩ = some (.int .i64 ksb)) (yb4 : w.cell? ⟨g, off + 8 + 4, none⟩ = some (.string kqb)) (yb5 : w.cell? ⟨g, off + 8 + 5, none⟩ = some (.int .i64 kmb)) (yb6 : w.cell? ⟨g, off + 8 + 6, none⟩ = some (.string krb)) (yb7 : w.cell? ⟨g, off + 8 + 7, none⟩ = some (.slice kBb klb kcb))
   (KEa : Hid (∀ W, Below w.heap.size w W → Calls Tryz.prog 34 #[.slice A N c, .agg #[.int .i64 koa, .int .i64 kka, .int .i64 kna, .int .i64 ksa, .string kqa, .int .i64 kma, .string kra, .slice kBa kla kca]] W fun e w' => e = .returned (.agg #[.int .i64 a.k, .int .i64 a.n, .int .i64 a.s, .string (bs a.t), .int .i64 a.m]) ∧ Below W.heap.size W w'))
   (KEb : Hid (∀ W, Below w.heap.size w W → Calls Tryz.prog 34 #[.slice A N c, .agg #[.int .i64 kob, .int .i64 kkb, .int .i64 knb, .int .i64 ksb, .string kqb, .int .i64 kmb, .string krb, .slice kBb klb kcb]] W fun e w' => e = .returned (.agg #[.int .i64 b.k, .int .i64 b.n, .int .i64 b.s, .string (bs b.t), .int .i64 b.m]) ∧ Below W.heap.size W w'))
   (HE : Hid (∀ W, Below w.heap.size w W → Calls Tryz.prog 17 #[.agg #[.int .i64 a.k, .int .i64 a.n, .int .i64 a.s, .string (bs a.t), .int .i64 a.m], .agg #[.int .i64 b.k, .int .i64 b.n, .int .i64 b.s, .string (bs b.t), .int .i64 b.m]] W fun e w' => e = .returned (.agg #[.int .i64 (eqC a b).k, .int .i64 (eqC a b).n, .int .i64 (eqC a b).s, .string (bs (eqC a b).t), .int .i64 (eqC a b).m]) ∧ Below W.heap.size W w'))
   (HL : Hid (∀ W, Below w.heap.size w W → Calls Tryz.prog 19 #[.agg #[.int .i64 a.k, .int .i64 a.n, .int .i64 a.s, .string (bs a.t), .int .i64 a.m], .agg #[.int .i64 b.k, .int .i64 b.n, .int .i64 b.s, .string (bs b.t), .int .i64 b.m]] W fun e w' => e = .returned (.agg #[.int .i64 (lessC a b).k, .int .i64 (lessC a b).n, .int .i64 (lessC a b).s, .string (bs (lessC a b).t), .int .i64 (lessC a b).m]) ∧ Below W.heap.size W w'))
   (HM : Hid (∀ W, Below w.heap.size w W → Calls Tryz.prog 19 #[.agg #[.int .i64 b.k, .int .i64 b.n, .int .i64 b.s, .string (bs b.t), .int .i64 b.m], .agg #[.int .i64 a.k, .int .i64 a.n, .int .i64 a.s, .string (bs a.t), .int .i64 a.m]] W fun e w' => e = .returned (.agg #[.int .i64 (lessC b a).k, .int .i64 (lessC b a).n, .int .i64 (lessC b a).s, .string (bs (lessC b a).t), .int .i64 (lessC b a).m]) ∧ Below W.heap.size W w'))
   (HN : Hid (∀ (v : Vl) W, Below w.heap.size w W → Calls Tryz.prog 60 #[.agg #[.int .i64 v.k, .int .i64 v.n, .int .i64 v.s, .string (bs v.t), .int .i64 v.m]] W fun e w' => e = .returned (.agg #[.int .i64 (notC v).k, .int .i64 (notC v).n, .int .i64 (notC v).s, .string (bs (notC v).t), .int .i64 (notC v).m]) ∧ Below W.heap.size W w'))
   (HA : Hid (∀ G cc W, Below w.heap.size w W → Blk W G 25 #[.int .i64 a.k, .int .i64 a.n, .int .i64 a.s, .string (bs a.t), .int .i64 a.m, .int .i64 b.k, .int .i64 b.n, .int .i64 b.s, .string (bs b.t), .int .i64 b.m] → Calls Tryz.prog 61 #[.slice (some ⟨G, 0, none⟩) 2 cc] W fun e w' => e = .returned (.agg #[.int .i64 (all2 true a b).k, .int .i64 (all2 true a b).n, .int .i64 (all2 true a b).s, .string (bs (all2 true a b).t), .int .i64 (all2 true a b).m]) ∧ Below W.heap.size W w'))
   (HO : Hid (∀ G cc W, Below w.heap.size w W → Blk W G 25 #[.int .i64 a.k, .int .i64 a.n, .int .i64 a.s, .string (bs a.t), .int .i64 a.m, .int .i64 b.k, .int .i64 b.n, .int .i64 b.s, .string (bs b.t), .int .i64 b.m] → Calls Tryz.prog 62 #[.slice (some ⟨G, 0, none⟩) 2 cc] W fun e w' => e = .returned (.agg #[.int .i64 (all2 false a b).k, .int .i64 (all2 false a b).n, .int .i64 (all2 false a b).s, .string (bs (all2 false a b).t), .int .i64 (all2 false a b).m]) ∧ Below W.heap.size W w'))
   (HR : Hid (∀ W, Below w.heap.size w W → Calls Tryz.prog 59 #[.int .i64 o, .agg #[.int .i64 a.k, .int .i64 a.n, .int .i64 a.s, .string (bs a.t), .int .i64 a.m], .agg #[.int .i64 b.k, .int .i64 b.n, .int .i64 b.s, .string (bs b.t), .int .i64 b.m]] W fun e w' => e = .returned (.agg #[.int .i64 (reckS o a b).k, .int .i64 (reckS o a b).n, .int .i64 (reckS o a b).s, .string (bs (reckS o a b).t), .int .i64 (reckS o a b).m]) ∧ Below W.heap.size W w')) :
   Calls Tryz.prog 34 #[.slice A N c, .agg #[.int .i64 o, .int .i64 vk, .int .i64 vn, .int .i64 vs, .string q, .int .i64 vm, .string r, .slice (some ⟨g, off, none⟩) 2 kc]] w fun e w' => e = .returned (.agg #[.int .i64 R.k, .int .i64 R.n, .int .i64 R.s, .string (bs R.t), .int .i64 R.m]) ∧ Below w.heap.size w w' := by
 have HRR := Lib.hid hR
 have H415 := Lib.hid (And.intro h4 h15)
 have e1 : (o == 1) = false := by simpa using (show ¬ o = 1 by omega)
 have e2 : (o == 2) = false := by simpa using (show ¬ o = 2 by omega)
 have e3 : (o == 3) = false := by simpa using (show ¬ o = 3 by omega)
 have e16 : (o == 16) = false := by simpa using (show ¬ o = 16 by omega)
 have e17 : (o == 17) = false := by simpa using (show ¬ o = 17 by omega)
 clear hR h4 h15
 have Yb0 := Lib.hid yb0
 have Yb1 := Lib.hid yb1
 have Yb2 := Lib.hid yb2
 have Yb3 := Lib.hid yb3
 have Yb4 := Lib.hid yb4
 have Yb5 := Lib.hid yb5
 have Yb6 := Lib.hid yb6
 have Yb7 := Lib.hid yb7
 clear yb0 yb1 yb2 yb3 yb4 yb5 yb6 yb7
 have k0 : Blk ((w.alloc (.cells #[.int .i64 o, .int .i64 vk, .int .i64 vn, .int .i64 vs, .string q, .int .i64 vm, .string r, .slice (some ⟨g, off, none⟩) 2 kc] 33)).alloc (.cells #[.int .i64 0, .int .i64 0, .int .i64 0, .string ⟨#[]⟩, .int .i64 0] 25)) w.heap.size 33 #[.int .i64 o, .int .i64 vk, .int .i64 vn, .int .i64 vs, .string q, .int .i64 vm, .string r, .slice (some ⟨g, off, none⟩) 2 kc] := (Blk.new _ _ _).alloc _
 have r0 : Blk ((w.alloc (.cells #[.int .i64 o, .int .i64 vk, .int .i64 vn, .int .i64 vs, .string q, .int .i64 vm, .string r, .slice (some ⟨g, off, none⟩) 2 kc] 33)).alloc (.cells #[.int .i64 0, .int .i64 0, .int .i64 0, .string ⟨#[]⟩, .int .i64 0] 25)) (w.heap.size + 1) 25 #[.int .i64 0, .int .i64 0, .int .i64 0, .string ⟨#[]⟩, .int .i64 0] := Blk.new' _ _ _ (by simp)
 have K0 := Lib.hid k0
 have R0 := Lib.hid r0
 have Ya0 := Lib.hid ya0
 have Ya1 := Lib.hid ya1
 have Ya2 := Lib.hid ya2
 have Ya3 := Lib.hid ya3
 have Ya4 := Lib.hid ya4
 have Ya5 := Lib.hid ya5
 have Ya6 := Lib.hid ya6
 have Ya7 := Lib.hid ya7
 clear ya0 ya1 ya2 ya3 ya4 ya5 ya6 ya7
 have hb00 : Below w.heap.size w ((w.alloc (.cells #[.int .i64 o, .int .i64 vk, .int .i64 vn, .int .i64 vs, .string q, .int .i64 vm, .string r, .slice (some ⟨g, off, none⟩) 2 kc] 33)).alloc (.cells #[.int .i64 0, .int .i64 0, .int .i64 0, .string ⟨#[]⟩, .int .i64 0] 25)) := by (repeat' first | (with_reducible first | exact .refl _ _ | assumption | apply balloc | apply Below.drew | apply bset | refine bstep ?_ ‹_› | refine bturn ?_ ‹_› ?_) | go_size)
 have ya0 := keep1 hb00 Ya0.out
 have ya1 := keep1 hb00 Ya1.out
 have ya2 := keep1 hb00 Ya2.out
 have ya3 := keep1 hb00 Ya3.out
 have ya4 := keep1 hb00 Ya4.out
 have ya5 := keep1 hb00 Ya5.out
 have ya6 := keep1 hb00 Ya6.out
 have ya7 := keep1 hb00 Ya7.out
 go_enter Tryz.func34, Tryz.ntmps34
 obtain ⟨hlu, hllu, qu0, qu1, qu2, qu3, qu4, qu5, qu6, qu7, zu0, zu1, zu2, zu3, zu4, zu5, zu6, zu7⟩ := bf8 k0; (try simp at qu0 qu1 qu2 qu3 qu4 qu5 qu6 qu7); have Hk0 := Lib.hid k0; clear k0
 go_wp2_with fail
 refine (KEa.out _ hb00).mono ?_
 rintro e w1 ⟨rfl, hb1⟩
 have hb01 := bstep hb00 hb1
 have K1 := Lib.hid ((K0.out.step hb1).alloc (.cells #[.int .i64 0, .int .i64 0, .int .i64 0, .string ⟨#[]⟩, .int .i64 0] 25))
 have R1 := Lib.hid ((R0.out.step hb1).alloc (.cells #[.int .i64 0, .int .i64 0, .int .i64 0, .string ⟨#[]⟩, .int .i64 0] 25))
 have a1 : Blk (w1.alloc (.cells #[.int .i64 0, .int .i64 0, .int .i64 0, .string ⟨#[]⟩, .int .i64 0] 25)) w1.heap.size 25 #[.int .i64 0, .int .i64 0, .int .i64 0, .string ⟨#[]⟩, .int .i64 0] := Blk.new _ _ _
 have hs1 := R1.out.lt
 have hk1 := K1.out.lt
 have hw1 : w.heap.size + 1 < w1.heap.size := (R0.out.step hb1).lt
 clear K0 R0 Hk0 hb1 hb00
 clear ya0 ya1 ya2 ya3 ya4 ya5 ya6 ya7
 clear qu0 zu0 qu1 zu1 qu2 zu2 qu3 zu3 qu4 zu4 qu5 zu5 qu6 zu6 qu7 zu7 hlu hllu
 go_upto_region 12 with (refine wpList_store_blk a1 rfl _ _ _ (by rfl) _ (by rfl) (by rfl) (by repeat first | with_reducible first | exact a1 | apply Blk.alloc | apply Blk.drew | refine Blk.far ?_ (by simp <;> omega) _ | refine Blk.turn ?_ ‹_› (by omega)) (by rfl) (by kernel_rfl) (by simp [Value.oneCell']) ?_; intro wt a1n ht)
 have hb02 : Below w.heap.size w wt := bturn (balloc hb01 _) ht (by omega)
 have k2 := K1.out.turn ht (by omega)
 have K2 := Lib.hid k2
 have R2 := Lib.hid (R1.out.turn ht (by omega))
 have a2 := a1n
 have A2 := Lib.hid a2
 clear K1 R1 a1 a1n ht hb01 hs1 hk1
 rename World => w2
 have hal2 := A2.out.lt
 have yb0 := keep1 hb02 Yb0.out
 have yb1 := keep1 hb02 Yb1.out
 have yb2 := keep1 hb02 Yb2.out
 have yb3 := keep1 hb02 Yb3.out
 have yb4 := keep1 hb02 Yb4.out
 have yb5 := keep1 hb02 Yb5.out
 have yb6 := keep1 hb02 Yb6.out
 have yb7 := keep1 hb02 Yb7.out
 obtain ⟨hlu, hllu, qu0, qu1, qu2, qu3, qu4, qu5, qu6, qu7, zu0, zu1, zu2, zu3, zu4, zu5, zu6, zu7⟩ := bf8 k2; (try simp at qu0 qu1 qu2 qu3 qu4 qu5 qu6 qu7); have Hk2 := Lib.hid k2; clear k2
 go_wp2_with fail
 refine (KEb.out _ hb02).mono ?_
 rintro e w3 ⟨rfl, hb3⟩
 have hb03 := bstep hb02 hb3
 have K3 := Lib.hid ((K2.out.step hb3).alloc (.cells #[.int .i64 0, .int .i64 0, .int .i64 0, .string ⟨#[]⟩, .int .i64 0] 25))
 have R3 := Lib.hid ((R2.out.step hb3).alloc (.cells #[.int .i64 0, .int .i64 0, .int .i64 0, .string ⟨#[]⟩, .int .i64 0] 25))
 have A3 := Lib.hid ((A2.out.step hb3).alloc (.cells #[.int .i64 0, .int .i64 0, .int .i64 0, .string ⟨#[]⟩, .int .i64 0] 25))
 have b3 : Blk (w3.alloc (.cells #[.int .i64 0, .int .i64 0, .int .i64 0, .string ⟨#[]⟩, .int .i64 0] 25)) w3.heap.size 25 #[.int .i64 0, .int .i64 0, .int .i64 0, .string ⟨#[]⟩, .int .i64 0] := Blk.new _ _ _
 have hk3 : w.heap.size + 1 < w3.heap.size := (R2.out.step hb3).lt
 have ha3 : w1.heap.size < w3.heap.size := (A2.out.step hb3).lt
 clear K2 R2 A2 a2 Hk2 hb3 hb02
 clear yb0 yb1 yb2 yb3 yb4 yb5 yb6 yb7
 clear qu0 zu0 qu1 zu1 qu2 zu2 qu3 zu3 qu4 zu4 qu5 zu5 qu6 zu6 qu7 zu7 hlu hllu
 go_upto_region 18 with (refine wpList_store_blk b3 rfl _ _ _ (by rfl) _ (by rfl) (by rfl) (by repeat first | with_reducible first | exact b3 | apply Blk.alloc | apply Blk.drew | refine Blk.far ?_ (by simp <;> omega) _ | refine Blk.turn ?_ ‹_› (by omega)) (by rfl) (by kernel_rfl) (by simp [Value.oneCell']) ?_; intro wt b3n ht)
 have hb04 : Below w.heap.size w wt := bturn (balloc hb03 _) ht (by omega)
 have k4 := K3.out.turn ht (by omega)
 have R4 := Lib.hid (R3.out.turn ht (by omega))
 have a4 := A3.out.turn ht (by omega)
 have b4 := b3n
 clear K3 R3 A3 b3 b3n ht hb03
 rename World => w4
 have hal4 := a4.lt
 have hbl4 := b4.lt
 have hrl4 := R4.out.lt
 have AB4 := Lib.hid (And.intro a4 b4)
 obtain ⟨hlu, hllu, qu0, qu1, qu2, qu3, qu4, qu5, qu6, qu7, zu0, zu1, zu2, zu3, zu4, zu5, zu6, zu7⟩ := bf8 k4; (try simp at qu0 qu1 qu2 qu3 qu4 qu5 qu6 qu7); have Hk4 := Lib.hid k4; clear k4
 obtain ⟨hlv, hllv, qv0, qv1, qv2, qv3, qv4, zv0, zv1, zv2, zv3, zv4⟩ := bf5 a4; (try simp at qv0 qv1 qv2 qv3 qv4); have Ha4 := Lib.hid a4; clear a4
 obtain ⟨hlx, hllx, qx0, qx1, qx2, qx3, qx4, zx0, zx1, zx2, zx3, zx4⟩ := bf5 b4; (try simp at qx0 qx1 qx2 qx3 qx4); have Hb4 := Lib.hid b4; clear b4
 clear e1 e2 e3 e16 e17
 by_cases h8 : o = 8
 · subst h8
   obtain rfl : eqC a b = R := by rw [← HRR.out, binS_8]
   clear HRR H415
   go_wp2_with fail
   refine (HE.out _ hb04).mono ?_
   rintro e w5 ⟨rfl, hb5⟩
   have hb05 := bstep hb04 hb5
   have r5 := R4.out.step hb5
   clear qu0 zu0 qv0 zv0 qx0 zx0
   go_wp2_with (refine wpList_store_blk r5 rfl _ _ _ (by rfl) _ (by rfl) (by rfl) (by repeat first | with_reducible first | exact r5 | apply Blk.alloc | apply Blk.drew | refine Blk.far ?_ (by simp <;> omega) _ | refine Blk.turn ?_ ‹_› (by omega)) (by rfl) (by kernel_rfl) (by simp [Value.oneCell']) ?_; intro wt r5n ht)
   refine ret_blk rfl r5n rfl Tryz.underlying25 rfl (by kernel_rfl) rfl ?_
   exact ⟨rfl, bturn hb05 ht (by omega)⟩
 by_cases h9 : o = 9
 · subst h9
   obtain rfl : notC (eqC a b) = R := by rw [← HRR.out, binS_9]
   clear HRR H415
   go_wp2_with fail
   refine (HE.out _ hb04).mono ?_
   rintro e w5 ⟨rfl, hb5⟩
   have hb05 := bstep hb04 hb5
   have R5 := Lib.hid (R4.out.step hb5)
   clear hb5 R4
   go_wp2_with fail
   refine (HN.out _ _ hb05).mono ?_
   rintro e w6 ⟨rfl, hb6⟩
   have hb06 := bstep hb05 hb6
   have r6 := R5.out.step hb6
   go_wp2_with (refine wpList_store_blk r6 rfl _ _ _ (by rfl) _ (by rfl) (by rfl) (by repeat first | with_reducible first | exact r6 | apply Blk.alloc | apply Blk.drew | refine Blk.far ?_ (by simp <;> omega) _ | refine Blk.turn ?_ ‹_› (by omega)) (by rfl) (by kernel_rfl) (by simp [Value.oneCell']) ?_; intro wt r6n ht)
   refine ret_blk rfl r6n rfl Tryz.underlying25 rfl (by kernel_rfl) rfl ?_
   exact ⟨rfl, bturn hb06 ht (by omega)⟩
 by_cases h10 : o = 10
 · subst h10
   obtain rfl : lessC a b = R := by rw [← HRR.out, binS_10]
   clear HRR H415
   go_wp2_with fail
   refine (HL.out _ hb04).mono ?_
   rintro e w5 ⟨rfl, hb5⟩
   have hb05 := bstep hb04 hb5
   have r5 := R4.out.step hb5
   clear qu0 zu0 qv0 zv0 qx0 zx0
   go_wp2_with (refine wpList_store_blk r5 rfl _ _ _ (by rfl) _ (by rfl) (by rfl) (by repeat first | with_reducible first | exact r5 | apply Blk.alloc | apply Blk.drew | refine Blk.far ?_ (by simp <;> omega) _ | refine Blk.turn ?_ ‹_› (by omega)) (by rfl) (by kernel_rfl) (by simp [Value.oneCell']) ?_; intro wt r5n ht)
   refine ret_blk rfl r5n rfl Tryz.underlying25 rfl (by kernel_rfl) rfl ?_
   exact ⟨rfl, bturn hb05 ht (by omega)⟩
 by_cases h11 : o = 11
 · subst h11
   obtain rfl : notC (lessC b a) = R := by rw [← HRR.out, binS_11]
   clear HRR H415
   go_wp2_with fail
   refine (HM.out _ hb04).mono ?_
   rintro e w5 ⟨rfl, hb5⟩
   have hb05 := bstep hb04 hb5
   have R5 := Lib.hid (R4.out.step hb5)
   clear hb5 R4
   go_wp2_with fail
   refine (HN.out _ _ hb05).mono ?_
   rintro e w6 ⟨rfl, hb6⟩
   have hb06 := bstep hb05 hb6
   have r6 := R5.out.step hb6
   go_wp2_with (refine wpList_store_blk r6 rfl _ _ _ (by rfl) _ (by rfl) (by rfl) (by repeat first | with_reducible first | exact r6 | apply Blk.alloc | apply Blk.drew | refine Blk.far ?_ (by simp <;> omega) _ | refine Blk.turn ?_ ‹_› (by omega)) (by rfl) (by kernel_rfl) (by simp [Value.oneCell']) ?_; intro wt r6n ht)
   refine ret_blk rfl r6n rfl Tryz.underlying25 rfl (by kernel_rfl) rfl ?_
   exact ⟨rfl, bturn hb06 ht (by omega)⟩
 by_cases h12 : o = 12
 · subst h12
   obtain rfl : lessC b a = R := by rw [← HRR.out, binS_12]
   clear HRR H415
   go_wp2_with fail
   refine (HM.out _ hb04).mono ?_
   rintro e w5 ⟨rfl, hb5⟩
   have hb05 := bstep hb04 hb5
   have r5 := R4.out.step hb5
   clear qu0 zu0 qv0 zv0 qx0 zx0
   go_wp2_with (refine wpList_store_blk r5 rfl _ _ _ (by rfl) _ (by rfl) (by rfl) (by repeat first | with_reducible first | exact r5 | apply Blk.alloc | apply Blk.drew | refine Blk.far ?_ (by simp <;> omega) _ | refine Blk.turn ?_ ‹_› (by omega)) (by rfl) (by kernel_rfl) (by simp [Value.oneCell']) ?_; intro wt r5n ht)
   refine ret_blk rfl r5n rfl Tryz.underlying25 rfl (by kernel_rfl) rfl ?_
   exact ⟨rfl, bturn hb05 ht (by omega)⟩
 by_cases h13 : o = 13
 · subst h13
   obtain rfl : notC (lessC a b) = R := by rw [← HRR.out, binS_13]
   clear HRR H415
   go_wp2_with fail
   refine (HL.out _ hb04).mono ?_
   rintro e w5 ⟨rfl, hb5⟩
   have hb05 := bstep hb04 hb5
   have R5 := Lib.hid (R4.out.step hb5)
   clear hb5 R4
   go_wp2_with fail
   refine (HN.out _ _ hb05).mono ?_
   rintro e w6 ⟨rfl, hb6⟩
   have hb06 := bstep hb05 hb6
   have r6 := R5.out.step hb6
   go_wp2_with (refine wpList_store_blk r6 rfl _ _ _ (by rfl) _ (by rfl) (by rfl) (by repeat first | with_reducible first | exact r6 | apply Blk.alloc | apply Blk.drew | refine Blk.far ?_ (by simp <;> omega) _ | refine Blk.turn ?_ ‹_› (by omega)) (by rfl) (by kernel_rfl) (by simp [Value.oneCell']) ?_; intro wt r6n ht)
   refine ret_blk rfl r6n rfl Tryz.underlying25 rfl (by kernel_rfl) rfl ?_
   exact ⟨rfl, bturn hb06 ht (by omega)⟩
 by_cases h14 : o = 14
 · subst h14
   obtain rfl : all2 true a b = R := by rw [← HRR.out, binS_14]
   clear HRR H415
   go_wp2_with fail
   refine (HA.out _ _ _ (balloc hb04 _) (Blk.new _ _ _)).mono ?_
   rintro e w5 ⟨rfl, hb5⟩
   have hb05 := bstep (balloc hb04 _) hb5
   have r5 := (R4.out.alloc _).step hb5
   clear qu0 zu0 qv0 zv0 qx0 zx0
   go_wp2_with (refine wpList_store_blk r5 rfl _ _ _ (by rfl) _ (by rfl) (by rfl) (by repeat first | with_reducible first | exact r5 | apply Blk.alloc | apply Blk.drew | refine Blk.far ?_ (by simp <;> omega) _ | refine Blk.turn ?_ ‹_› (by omega)) (by rfl) (by kernel_rfl) (by simp [Value.oneCell']) ?_; intro wt r5n ht)
   refine ret_blk rfl r5n rfl Tryz.underlying25 rfl (by kernel_rfl) rfl ?_
   exact ⟨rfl, bturn hb05 ht (by omega)⟩
 by_cases h15 : o = 15
 · subst h15
   obtain rfl : all2 false a b = R := by rw [← HRR.out, binS_15]
   clear HRR H415
   go_wp2_with fail
   refine (HO.out _ _ _ (balloc hb04 _) (Blk.new _ _ _)).mono ?_
   rintro e w5 ⟨rfl, hb5⟩
   have hb05 := bstep (balloc hb04 _) hb5
   have r5 := (R4.out.alloc _).step hb5
   clear qu0 zu0 qv0 zv0 qx0 zx0
   go_wp2_with (refine wpList_store_blk r5 rfl _ _ _ (by rfl) _ (by rfl) (by rfl) (by repeat first | with_reducible first | exact r5 | apply Blk.alloc | apply Blk.drew | refine Blk.far ?_ (by simp <;> omega) _ | refine Blk.turn ?_ ‹_› (by omega)) (by rfl) (by kernel_rfl) (by simp [Value.oneCell']) ?_; intro wt r5n ht)
   refine ret_blk rfl r5n rfl Tryz.underlying25 rfl (by kernel_rfl) rfl ?_
   exact ⟨rfl, bturn hb05 ht (by omega)⟩
 obtain rfl : reckS o a b = R := by rw [← HRR.out, binS_o a b h8 h9 h10 h11 h12 h13 h14 h15]
 have e8 : (o == 8) = false := by simpa using h8
 have e9 : (o == 9) = false := by simpa using h9
 have e10 : (o == 10) = false := by simpa using h10
 have e11 : (o == 11) = false := by simpa using h11
 have e12 : (o == 12) = false := by simpa using h12
 have e13 : (o == 13) = false := by simpa using h13
 have e14 : (o == 14) = false := by simpa using h14
 have e15 : (o == 15) = false := by simpa using h15
 clear HRR H415 h8 h9 h10 h11 h12 h13 h14 h15
 go_wp2_with fail
 refine (HR.out _ hb04).mono ?_
 rintro e w5 ⟨rfl, hb5⟩
 have hb05 := bstep hb04 hb5
 have r5 := R4.out.step hb5
 clear qu0 zu0 qv0 zv0 qx0 zx0
 go_wp2_with (refine wpList_store_blk r5 rfl _ _ _ (by rfl) _ (by rfl) (by rfl) (by repeat first | with_reducible first | exact r5 | apply Blk.alloc | apply Blk.drew | refine Blk.far ?_ (by simp <;> omega) _ | refine Blk.turn ?_ ‹_› (by omega)) (by rfl) (by kernel_rfl) (by simp [Value.oneCell']) ?_; intro wt r5n ht)
 refine ret_blk rfl r5n rfl Tryz.underlying25 rfl (by kernel_rfl) rfl ?_
 exact ⟨rfl, bturn hb05 ht (by omega)⟩
end Go.Proofs.YtapilekangmcoaaGreatDoor
