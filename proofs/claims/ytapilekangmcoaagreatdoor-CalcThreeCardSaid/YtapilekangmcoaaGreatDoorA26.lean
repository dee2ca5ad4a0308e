/- The walk of calc.reckon. -/
import Derived.Test.YtapilekangmcoaaGreatDoorA52
import Derived.Test.YtapilekangmcoaaGreatDoorA25
set_option linter.unusedVariables false
set_option linter.unusedSimpArgs false
set_option maxHeartbeats 8000000
set_option maxRecDepth 100000
namespace Go.Proofs.YtapilekangmcoaaGreatDoor
open Go.Proofs.YtapilekangmcoaaGreatDoor.Dq
open Go.RowKit Go.Shelf
theorem rk_no1 (o ak an as' am bk bn bs' bm : Int) (aq bq : ByteArray) (h : ¬ ak = 1) (w : World)
   (HN : Hid (NU w)) :
   Calls Tryz.prog 59 #[.int .i64 o, .agg #[.int .i64 ak, .int .i64 an, .int .i64 as', .string aq, .int .i64 am], .agg #[.int .i64 bk, .int .i64 bn, .int .i64 bs', .string bq, .int .i64 bm]] w fun e w' => e = .returned (.agg #[.int .i64 0, .int .i64 0, .int .i64 0, .string ⟨#[]⟩, .int .i64 0]) ∧ Below w.heap.size w w' := by
 have g1 : (ak != 1) = true := by simpa using h
 clear h
 have j0 : Blk (((w.alloc (.cells #[.int .i64 ak, .int .i64 an, .int .i64 as', .string aq, .int .i64 am] 25)).alloc (.cells #[.int .i64 bk, .int .i64 bn, .int .i64 bs', .string bq, .int .i64 bm] 25)).alloc (.cells #[.int .i64 0, .int .i64 0, .int .i64 0, .string ⟨#[]⟩, .int .i64 0] 25)) w.heap.size 25 #[.int .i64 ak, .int .i64 an, .int .i64 as', .string aq, .int .i64 am] := ((Blk.new _ _ _).alloc _).alloc _
 have i0 : Blk (((w.alloc (.cells #[.int .i64 ak, .int .i64 an, .int .i64 as', .string aq, .int .i64 am] 25)).alloc (.cells #[.int .i64 bk, .int .i64 bn, .int .i64 bs', .string bq, .int .i64 bm] 25)).alloc (.cells #[.int .i64 0, .int .i64 0, .int .i64 0, .string ⟨#[]⟩, .int .i64 0] 25)) (w.heap.size + 1) 25 #[.int .i64 bk, .int .i64 bn, .int .i64 bs', .string bq, .int .i64 bm] := (Blk.new' _ _ _ (by simp)).alloc _
 have r0 : Blk (((w.alloc (.cells #[.int .i64 ak, .int .i64 an, .int .i64 as', .string aq, .int .i64 am] 25)).alloc (.cells #[.int .i64 bk, .int .i64 bn, .int .i64 bs', .string bq, .int .i64 bm] 25)).alloc (.cells #[.int .i64 0, .int .i64 0, .int .i64 0, .string ⟨#[]⟩, .int .i64 0] 25)) (w.heap.size + 1 + 1) 25 #[.int .i64 0, .int .i64 0, .int .i64 0, .string ⟨#[]⟩, .int .i64 0] := Blk.new' _ _ _ (by simp)
 have hb3 : Below w.heap.size w (((w.alloc (.cells #[.int .i64 ak, .int .i64 an, .int .i64 as', .string aq, .int .i64 am] 25)).alloc (.cells #[.int .i64 bk, .int .i64 bn, .int .i64 bs', .string bq, .int .i64 bm] 25)).alloc (.cells #[.int .i64 0, .int .i64 0, .int .i64 0, .string ⟨#[]⟩, .int .i64 0] 25)) := by (repeat' first | (with_reducible first | exact .refl _ _ | assumption | apply balloc | apply Below.drew | apply bset | refine bstep ?_ ‹_› | refine bturn ?_ ‹_› ?_) | go_size)
 obtain ⟨n0, n1, n2, n3, n4, hnl⟩ := HN.out.step (w' := _) hb3
 have hnll := lts hnl
 clear hb3
 go_enter Tryz.func59, Tryz.ntmps59
 obtain ⟨hlu, hllu, qu0, qu1, qu2, qu3, qu4, zu0, zu1, zu2, zu3, zu4⟩ := bf5 j0; (try simp at qu0 qu1 qu2 qu3 qu4); have Hj0 := Lib.hid j0; clear j0
 obtain ⟨hlv, hllv, qv0, qv1, qv2, qv3, qv4, zv0, zv1, zv2, zv3, zv4⟩ := bf5 i0; (try simp at qv0 qv1 qv2 qv3 qv4); have Hi0 := Lib.hid i0; clear i0
 go_wp2_with (refine wpList_store_blk r0 rfl _ _ _ (by rfl) _ (by rfl) (by rfl) (by repeat first | with_reducible first | exact r0 | apply Blk.alloc | apply Blk.drew | refine Blk.far ?_ (by simp <;> omega) _ | refine Blk.turn ?_ ‹_› (by omega)) (by rfl) (by kernel_rfl) (by simp [Value.oneCell']) ?_; intro wt r0n ht)
 refine ret_blk rfl r0n rfl Tryz.underlying25 rfl (by kernel_rfl) rfl ?_
 exact ⟨rfl, bturn (by (repeat' first | (with_reducible first | exact .refl _ _ | assumption | apply balloc | apply Below.drew | apply bset | refine bstep ?_ ‹_› | refine bturn ?_ ‹_› ?_) | go_size)) ht (by omega)⟩
theorem rk_no2 (o an as' am bk bn bs' bm : Int) (aq bq : ByteArray) (h : ¬ bk = 1) (w : World)
   (HN : Hid (NU w)) :
   Calls Tryz.prog 59 #[.int .i64 o, .agg #[.int .i64 1, .int .i64 an, .int .i64 as', .string aq, .int .i64 am], .agg #[.int .i64 bk, .int .i64 bn, .int .i64 bs', .string bq, .int .i64 bm]] w fun e w' => e = .returned (.agg #[.int .i64 0, .int .i64 0, .int .i64 0, .string ⟨#[]⟩, .int .i64 0]) ∧ Below w.heap.size w w' := by
 have g1 : (bk != 1) = true := by simpa using h
 clear h
 have j0 : Blk (((w.alloc (.cells #[.int .i64 1, .int .i64 an, .int .i64 as', .string aq, .int .i64 am] 25)).alloc (.cells #[.int .i64 bk, .int .i64 bn, .int .i64 bs', .string bq, .int .i64 bm] 25)).alloc (.cells #[.int .i64 0, .int .i64 0, .int .i64 0, .string ⟨#[]⟩, .int .i64 0] 25)) w.heap.size 25 #[.int .i64 1, .int .i64 an, .int .i64 as', .string aq, .int .i64 am] := ((Blk.new _ _ _).alloc _).alloc _
 have i0 : Blk (((w.alloc (.cells #[.int .i64 1, .int .i64 an, .int .i64 as', .string aq, .int .i64 am] 25)).alloc (.cells #[.int .i64 bk, .int .i64 bn, .int .i64 bs', .string bq, .int .i64 bm] 25)).alloc (.cells #[.int .i64 0, .int .i64 0, .int .i64 0, .string ⟨#[]⟩, .int .i64 0] 25)) (w.heap.size + 1) 25 #[.int .i64 bk, .int .i64 bn, .int .i64 bs', .string bq, .int .i64 bm] := (Blk.new' _ _ _ (by simp)).alloc _
 have r0 : Blk (((w.alloc (.cells #[.int .i64 1, .int .i64 an, .int .i64 as', .string aq, .int .i64 am] 25)).alloc (.cells #[.int .i64 bk, .int .i64 bn, .int .i64 bs', .string bq, .int .i64 bm] 25)).alloc (.cells #[.int .i64 0, .int .i64 0, .int .i64 0, .string ⟨#[]⟩, .int .i64 0] 25)) (w.heap.size + 1 + 1) 25 #[.int .i64 0, .int .i64 0, .int .i64 0, .string ⟨#[]⟩, .int .i64 0] := Blk.new' _ _ _ (by simp)
 have hb3 : Below w.heap.size w (((w.alloc (.cells #[.int .i64 1, .int .i64 an, .int .i64 as', .string aq, .int .i64 am] 25)).alloc (.cells #[.int .i64 bk, .int .i64 bn, .int .i64 bs', .string bq, .int .i64 bm] 25)).alloc (.cells #[.int .i64 0, .int .i64 0, .int .i64 0, .string ⟨#[]⟩, .int .i64 0] 25)) := by (repeat' first | (with_reducible first | exact .refl _ _ | assumption | apply balloc | apply Below.drew | apply bset | refine bstep ?_ ‹_› | refine bturn ?_ ‹_› ?_) | go_size)
 obtain ⟨n0, n1, n2, n3, n4, hnl⟩ := HN.out.step (w' := _) hb3
 have hnll := lts hnl
 clear hb3
 go_enter Tryz.func59, Tryz.ntmps59
 obtain ⟨hlu, hllu, qu0, qu1, qu2, qu3, qu4, zu0, zu1, zu2, zu3, zu4⟩ := bf5 j0; (try simp at qu0 qu1 qu2 qu3 qu4); have Hj0 := Lib.hid j0; clear j0
 obtain ⟨hlv, hllv, qv0, qv1, qv2, qv3, qv4, zv0, zv1, zv2, zv3, zv4⟩ := bf5 i0; (try simp at qv0 qv1 qv2 qv3 qv4); have Hi0 := Lib.hid i0; clear i0
 go_wp2_with (refine wpList_store_blk r0 rfl _ _ _ (by rfl) _ (by rfl) (by rfl) (by repeat first | with_reducible first | exact r0 | apply Blk.alloc | apply Blk.drew | refine Blk.far ?_ (by simp <;> omega) _ | refine Blk.turn ?_ ‹_› (by omega)) (by rfl) (by kernel_rfl) (by simp [Value.oneCell']) ?_; intro wt r0n ht)
 refine ret_blk rfl r0n rfl Tryz.underlying25 rfl (by kernel_rfl) rfl ?_
 exact ⟨rfl, bturn (by (repeat' first | (with_reducible first | exact .refl _ _ | assumption | apply balloc | apply Below.drew | apply bset | refine bstep ?_ ‹_› | refine bturn ?_ ‹_› ?_) | go_size)) ht (by omega)⟩
theorem rk_4 (an as' am bn bs' bm : Int) (aq bq : ByteArray) (rn rs : Int) (re dk dn ds dm : Int) (dq : ByteArray) (w : World)
   (HG : Hid ((re = 0 → dk = 1 ∧ dn = rn ∧ ds = rs ∧ dq = ⟨#[]⟩ ∧ dm = 0) ∧ (¬ re = 0 → dk = 0 ∧ dn = 0 ∧ ds = 0 ∧ dq = ⟨#[]⟩ ∧ dm = 0)))
   (HN : Hid (NU w))
   (KX : Hid (∀ W, Calls Tryz.prog 85 #[.agg #[.int .i64 an, .int .i64 as'], .agg #[.int .i64 bn, .int .i64 bs']] W fun e w' => e = .returned (.tuple #[.agg #[.int .i64 rn, .int .i64 rs], .int .i64 re]) ∧ Below W.heap.size W w')) :
   Calls Tryz.prog 59 #[.int .i64 4, .agg #[.int .i64 1, .int .i64 an, .int .i64 as', .string aq, .int .i64 am], .agg #[.int .i64 1, .int .i64 bn, .int .i64 bs', .string bq, .int .i64 bm]] w fun e w' => e = .returned (.agg #[.int .i64 dk, .int .i64 dn, .int .i64 ds, .string dq, .int .i64 dm]) ∧ Below w.heap.size w w' := by
 have j0 : Blk ((((w.alloc (.cells #[.int .i64 1, .int .i64 an, .int .i64 as', .string aq, .int .i64 am] 25)).alloc (.cells #[.int .i64 1, .int .i64 bn, .int .i64 bs', .string bq, .int .i64 bm] 25)).alloc (.cells #[.int .i64 0, .int .i64 0, .int .i64 0, .string ⟨#[]⟩, .int .i64 0] 25)).alloc (.cells #[.int .i64 0, .int .i64 0] 23)) w.heap.size 25 #[.int .i64 1, .int .i64 an, .int .i64 as', .string aq, .int .i64 am] := (((Blk.new _ _ _).alloc _).alloc _).alloc _
 have i0 : Blk ((((w.alloc (.cells #[.int .i64 1, .int .i64 an, .int .i64 as', .string aq, .int .i64 am] 25)).alloc (.cells #[.int .i64 1, .int .i64 bn, .int .i64 bs', .string bq, .int .i64 bm] 25)).alloc (.cells #[.int .i64 0, .int .i64 0, .int .i64 0, .string ⟨#[]⟩, .int .i64 0] 25)).alloc (.cells #[.int .i64 0, .int .i64 0] 23)) (w.heap.size + 1) 25 #[.int .i64 1, .int .i64 bn, .int .i64 bs', .string bq, .int .i64 bm] := ((Blk.new' _ _ _ (by simp)).alloc _).alloc _
 have r0 : Blk ((((w.alloc (.cells #[.int .i64 1, .int .i64 an, .int .i64 as', .string aq, .int .i64 am] 25)).alloc (.cells #[.int .i64 1, .int .i64 bn, .int .i64 bs', .string bq, .int .i64 bm] 25)).alloc (.cells #[.int .i64 0, .int .i64 0, .int .i64 0, .string ⟨#[]⟩, .int .i64 0] 25)).alloc (.cells #[.int .i64 0, .int .i64 0] 23)) (w.heap.size + 1 + 1) 25 #[.int .i64 0, .int .i64 0, .int .i64 0, .string ⟨#[]⟩, .int .i64 0] := (Blk.new' _ _ _ (by simp)).alloc _
 have d0 : Blk ((((w.alloc (.cells #[.int .i64 1, .int .i64 an, .int .i64 as', .string aq, .int .i64 am] 25)).alloc (.cells #[.int .i64 1, .int .i64 bn, .int .i64 bs', .string bq, .int .i64 bm] 25)).alloc (.cells #[.int .i64 0, .int .i64 0, .int .i64 0, .string ⟨#[]⟩, .int .i64 0] 25)).alloc (.cells #[.int .i64 0, .int .i64 0] 23)) (w.heap.size + 1 + 1 + 1) 23 #[.int .i64 0, .int .i64 0] := Blk.new' _ _ _ (by simp)
 have R0 := Lib.hid r0
 have D0 := Lib.hid d0
 clear r0 d0
 go_enter Tryz.func59, Tryz.ntmps59
 obtain ⟨hlu, hllu, qu0, qu1, qu2, qu3, qu4, zu0, zu1, zu2, zu3, zu4⟩ := bf5 j0; (try simp at qu0 qu1 qu2 qu3 qu4); have Hj0 := Lib.hid j0; clear j0
 obtain ⟨hlv, hllv, qv0, qv1, qv2, qv3, qv4, zv0, zv1, zv2, zv3, zv4⟩ := bf5 i0; (try simp at qv0 qv1 qv2 qv3 qv4); have Hi0 := Lib.hid i0; clear i0
 go_wp2_with fail
 refine (KX.out _).mono ?_
 rintro e w1 ⟨rfl, hb1⟩
 have hb01 : Below w.heap.size w w1 := by (repeat' first | (with_reducible first | exact .refl _ _ | assumption | apply balloc | apply Below.drew | apply bset | refine bstep ?_ ‹_› | refine bturn ?_ ‹_› ?_) | go_size)
 have R1 := Lib.hid (R0.out.step hb1)
 have d1 := D0.out.step hb1
 clear R0 D0 hb1 qu0 zu0 qv0 zv0 qu1 zu1 qv1 zv1 qu2 zu2 qv2 zv2 qu3 zu3 qv3 zv3 qu4 zu4 qv4 zv4 hlu hllu hlv hllv Hj0 Hi0
 go_upto_region 13 with (refine wpList_store_blk d1 rfl _ _ _ (by rfl) _ (by rfl) (by rfl) (by repeat first | with_reducible first | exact d1 | apply Blk.alloc | apply Blk.drew | refine Blk.far ?_ (by simp <;> omega) _ | refine Blk.turn ?_ ‹_› (by omega)) (by rfl) (by kernel_rfl) (by simp [Value.oneCell']) ?_; intro wt d1n ht)
 have hb09 : Below w.heap.size w wt := bturn hb01 ht (by omega)
 have r9 := R1.out.turn ht (by omega)
 have d9 := d1n
 clear d1n d1 ht hb01
 rename World => w9
 by_cases he : re = 0
 · obtain ⟨rfl, rfl, rfl, rfl, rfl⟩ := HG.out.1 he
   have g9 : (re != 0) = false := by simpa using he
   clear he HG
   have hlx := d9.lt; have hllx := lts hlx; have qx0 := d9.cell 0; have qx1 := d9.cell 1; simp at qx0 qx1; have zx0 := d9.frozen 0; have zx1 := d9.frozen 1; have Hd9 := Lib.hid d9; clear d9
   go_wp2_with (refine wpList_store_blk r9 rfl _ _ _ (by rfl) _ (by rfl) (by rfl) (by repeat first | with_reducible first | exact r9 | apply Blk.alloc | apply Blk.drew | refine Blk.far ?_ (by simp <;> omega) _ | refine Blk.turn ?_ ‹_› (by omega)) (by rfl) (by kernel_rfl) (by simp [Value.oneCell']) ?_; intro wt r9n ht)
   refine ret_blk rfl r9n rfl Tryz.underlying25 rfl (by kernel_rfl) rfl ?_
   exact ⟨rfl, bturn hb09 ht (by omega)⟩
 · obtain ⟨rfl, rfl, rfl, rfl, rfl⟩ := HG.out.2 he
   have g9 : (re != 0) = true := by simpa using he
   clear he HG
   obtain ⟨n0, n1, n2, n3, n4, hnl⟩ := HN.out.step (w' := _) hb09
   have hnll := lts hnl
   go_wp2_with (refine wpList_store_blk r9 rfl _ _ _ (by rfl) _ (by rfl) (by rfl) (by repeat first | with_reducible first | exact r9 | apply Blk.alloc | apply Blk.drew | refine Blk.far ?_ (by simp <;> omega) _ | refine Blk.turn ?_ ‹_› (by omega)) (by rfl) (by kernel_rfl) (by simp [Value.oneCell']) ?_; intro wt r9n ht)
   refine ret_blk rfl r9n rfl Tryz.underlying25 rfl (by kernel_rfl) rfl ?_
   exact ⟨rfl, bturn hb09 ht (by omega)⟩
theorem rk_6 (an as' am bn bs' bm : Int) (aq bq : ByteArray) (rn rs : Int) (re dk dn ds dm : Int) (dq : ByteArray) (w : World)
   (HG : Hid ((re = 0 → dk = 1 ∧ dn = rn ∧ ds = rs ∧ dq = ⟨#[]⟩ ∧ dm = 0) ∧ (¬ re = 0 → dk = 0 ∧ dn = 0 ∧ ds = 0 ∧ dq = ⟨#[]⟩ ∧ dm = 0)))
   (HN : Hid (NU w))
   (KX : Hid (∀ W, Calls Tryz.prog 86 #[.agg #[.int .i64 an, .int .i64 as'], .agg #[.int .i64 bn, .int .i64 bs']] W fun e w' => e = .returned (.tuple #[.agg #[.int .i64 rn, .int .i64 rs], .int .i64 re]) ∧ Below W.heap.size W w')) :
   Calls Tryz.prog 59 #[.int .i64 6, .agg #[.int .i64 1, .int .i64 an, .int .i64 as', .string aq, .int .i64 am], .agg #[.int .i64 1, .int .i64 bn, .int .i64 bs', .string bq, .int .i64 bm]] w fun e w' => e = .returned (.agg #[.int .i64 dk, .int .i64 dn, .int .i64 ds, .string dq, .int .i64 dm]) ∧ Below w.heap.size w w' := by
 have j0 : Blk ((((w.alloc (.cells #[.int .i64 1, .int .i64 an, .int .i64 as', .string aq, .int .i64 am] 25)).alloc (.cells #[.int .i64 1, .int .i64 bn, .int .i64 bs', .string bq, .int .i64 bm] 25)).alloc (.cells #[.int .i64 0, .int .i64 0, .int .i64 0, .string ⟨#[]⟩, .int .i64 0] 25)).alloc (.cells #[.int .i64 0, .int .i64 0] 23)) w.heap.size 25 #[.int .i64 1, .int .i64 an, .int .i64 as', .string aq, .int .i64 am] := (((Blk.new _ _ _).alloc _).alloc _).alloc _
 have i0 : Blk ((((w.alloc (.cells #[.int .i64 1, .int .i64 an, .int .i64 as', .string aq, .int .i64 am] 25)).alloc (.cells #[.int .i64 1, .int .i64 bn, .int .i64 bs', .string bq, .int .i64 bm] 25)).alloc (.cells #[.int .i64 0, .int .i64 0, .int .i64 0, .string ⟨#[]⟩, .int .i64 0] 25)).alloc (.cells #[.int .i64 0, .int .i64 0] 23)) (w.heap.size + 1) 25 #[.int .i64 1, .int .i64 bn, .int .i64 bs', .string bq, .int .i64 bm] := ((Blk.new' _ _ _ (by simp)).alloc _).alloc _
 have r0 : Blk ((((w.alloc (.cells #[.int .i64 1, .int .i64 an, .int .i64 as', .string aq, .int .i64 am] 25)).alloc (.cells #[.int .i64 1, .int .i64 bn, .int .i64 bs', .string bq, .int .i64 bm] 25)).alloc (.cells #[.int .i64 0, .int .i64 0, .int .i64 0, .string ⟨#[]⟩, .int .i64 0] 25)).alloc (.cells #[.int .i64 0, .int .i64 0] 23)) (w.heap.size + 1 + 1) 25 #[.int .i64 0, .int .i64 0, .int .i64 0, .string ⟨#[]⟩, .int .i64 0] := (Blk.new' _ _ _ (by simp)).alloc _
 have d0 : Blk ((((w.alloc (.cells #[.int .i64 1, .int .i64 an, .int .i64 as', .string aq, .int .i64 am] 25)).alloc (.cells #[.int .i64 1, .int .i64 bn, .int .i64 bs', .string bq, .int .i64 bm] 25)).alloc (.cells #[.int .i64 0, .int .i64 0, .int .i64 0, .string ⟨#[]⟩, .int .i64 0] 25)).alloc (.cells #[.int .i64 0, .int .i64 0] 23)) (w.heap.size + 1 + 1 + 1) 23 #[.int .i64 0, .int .i64 0] := Blk.new' _ _ _ (by simp)
 have R0 := Lib.hid r0
 have D0 := Lib.hid d0
 clear r0 d0
 go_enter Tryz.func59, Tryz.ntmps59
 obtain ⟨hlu, hllu, qu0, qu1, qu2, qu3, qu4, zu0, zu1, zu2, zu3, zu4⟩ := bf5 j0; (try simp at qu0 qu1 qu2 qu3 qu4); have Hj0 := Lib.hid j0; clear j0
 obtain ⟨hlv, hllv, qv0, qv1, qv2, qv3, qv4, zv0, zv1, zv2, zv3, zv4⟩ := bf5 i0; (try simp at qv0 qv1 qv2 qv3 qv4); have Hi0 := Lib.hid i0; clear i0
 go_wp2_with fail
 refine (KX.out _).mono ?_
 rintro e w1 ⟨rfl, hb1⟩
 have hb01 : Below w.heap.size w w1 := by (repeat' first | (with_reducible first | exact .refl _ _ | assumption | apply balloc | apply Below.drew | apply bset | refine bstep ?_ ‹_› | refine bturn ?_ ‹_› ?_) | go_size)
 have R1 := Lib.hid (R0.out.step hb1)
 have d1 := D0.out.step hb1
 clear R0 D0 hb1 qu0 zu0 qv0 zv0 qu1 zu1 qv1 zv1 qu2 zu2 qv2 zv2 qu3 zu3 qv3 zv3 qu4 zu4 qv4 zv4 hlu hllu hlv hllv Hj0 Hi0
 go_upto_region 13 with (refine wpList_store_blk d1 rfl _ _ _ (by rfl) _ (by rfl) (by rfl) (by repeat first | with_reducible first | exact d1 | apply Blk.alloc | apply Blk.drew | refine Blk.far ?_ (by simp <;> omega) _ | refine Blk.turn ?_ ‹_› (by omega)) (by rfl) (by kernel_rfl) (by simp [Value.oneCell']) ?_; intro wt d1n ht)
 have hb09 : Below w.heap.size w wt := bturn hb01 ht (by omega)
 have r9 := R1.out.turn ht (by omega)
 have d9 := d1n
 clear d1n d1 ht hb01
 rename World => w9
 by_cases he : re = 0
 · obtain ⟨rfl, rfl, rfl, rfl, rfl⟩ := HG.out.1 he
   have g9 : (re != 0) = false := by simpa using he
   clear he HG
   have hlx := d9.lt; have hllx := lts hlx; have qx0 := d9.cell 0; have qx1 := d9.cell 1; simp at qx0 qx1; have zx0 := d9.frozen 0; have zx1 := d9.frozen 1; have Hd9 := Lib.hid d9; clear d9
   go_wp2_with (refine wpList_store_blk r9 rfl _ _ _ (by rfl) _ (by rfl) (by rfl) (by repeat first | with_reducible first | exact r9 | apply Blk.alloc | apply Blk.drew | refine Blk.far ?_ (by simp <;> omega) _ | refine Blk.turn ?_ ‹_› (by omega)) (by rfl) (by kernel_rfl) (by simp [Value.oneCell']) ?_; intro wt r9n ht)
   refine ret_blk rfl r9n rfl Tryz.underlying25 rfl (by kernel_rfl) rfl ?_
   exact ⟨rfl, bturn hb09 ht (by omega)⟩
 · obtain ⟨rfl, rfl, rfl, rfl, rfl⟩ := HG.out.2 he
   have g9 : (re != 0) = true := by simpa using he
   clear he HG
   obtain ⟨n0, n1, n2, n3, n4, hnl⟩ := HN.out.step (w' := _) hb09
   have hnll := lts hnl
   go_wp2_with (refine wpList_store_blk r9 rfl _ _ _ (by rfl) _ (by rfl) (by rfl) (by repeat first | with_reducible first | exact r9 | apply Blk.alloc | apply Blk.drew | refine Blk.far ?_ (by simp <;> omega) _ | refine Blk.turn ?_ ‹_› (by omega)) (by rfl) (by kernel_rfl) (by simp [Value.oneCell']) ?_; intro wt r9n ht)
   refine ret_blk rfl r9n rfl Tryz.underlying25 rfl (by kernel_rfl) rfl ?_
   exact ⟨rfl, bturn hb09 ht (by omega)⟩
theorem rk_o (o an as' am bn bs' bm : Int) (aq bq : ByteArray) (rn rs : Int) (re dk dn ds dm : Int) (dq : ByteArray) (h5 : ¬ o = 5) (h4 : ¬ o = 4) (h6 : ¬ o = 6) (w : World)
   (HG : Hid ((re = 0 → dk = 1 ∧ dn = rn ∧ ds = rs ∧ dq = ⟨#[]⟩ ∧ dm = 0) ∧ (¬ re = 0 → dk = 0 ∧ dn = 0 ∧ ds = 0 ∧ dq = ⟨#[]⟩ ∧ dm = 0)))
   (HN : Hid (NU w))
   (KX : Hid (∀ W, Calls Tryz.prog 87 #[.agg #[.int .i64 an, .int .i64 as'], .agg #[.int .i64 bn, .int .i64 bs']] W fun e w' => e = .returned (.tuple #[.agg #[.int .i64 rn, .int .i64 rs], .int .i64 re]) ∧ Below W.heap.size W w')) :
   Calls Tryz.prog 59 #[.int .i64 o, .agg #[.int .i64 1, .int .i64 an, .int .i64 as', .string aq, .int .i64 am], .agg #[.int .i64 1, .int .i64 bn, .int .i64 bs', .string bq, .int .i64 bm]] w fun e w' => e = .returned (.agg #[.int .i64 dk, .int .i64 dn, .int .i64 ds, .string dq, .int .i64 dm]) ∧ Below w.heap.size w w' := by
 have g5 : (o == 5) = false := by simpa using h5
 have g4 : (o == 4) = false := by simpa using h4
 have g6 : (o == 6) = false := by simpa using h6
 clear h5 h4 h6
 have j0 : Blk ((((w.alloc (.cells #[.int .i64 1, .int .i64 an, .int .i64 as', .string aq, .int .i64 am] 25)).alloc (.cells #[.int .i64 1, .int .i64 bn, .int .i64 bs', .string bq, .int .i64 bm] 25)).alloc (.cells #[.int .i64 0, .int .i64 0, .int .i64 0, .string ⟨#[]⟩, .int .i64 0] 25)).alloc (.cells #[.int .i64 0, .int .i64 0] 23)) w.heap.size 25 #[.int .i64 1, .int .i64 an, .int .i64 as', .string aq, .int .i64 am] := (((Blk.new _ _ _).alloc _).alloc _).alloc _
 have i0 : Blk ((((w.alloc (.cells #[.int .i64 1, .int .i64 an, .int .i64 as', .string aq, .int .i64 am] 25)).alloc (.cells #[.int .i64 1, .int .i64 bn, .int .i64 bs', .string bq, .int .i64 bm] 25)).alloc (.cells #[.int .i64 0, .int .i64 0, .int .i64 0, .string ⟨#[]⟩, .int .i64 0] 25)).alloc (.cells #[.int .i64 0, .int .i64 0] 23)) (w.heap.size + 1) 25 #[.int .i64 1, .int .i64 bn, .int .i64 bs', .string bq, .int .i64 bm] := ((Blk.new' _ _ _ (by simp)).alloc _).alloc _
 have r0 : Blk ((((w.alloc (.cells #[.int .i64 1, .int .i64 an, .int .i64 as', .string aq, .int .i64 am] 25)).alloc (.cells #[.int .i64 1, .int .i64 bn, .int .i64 bs', .string bq, .int .i64 bm] 25)).alloc (.cells #[.int .i64 0, .int .i64 0, .int .i64 0, .string ⟨#[]⟩, .int .i64 0] 25)).alloc (.cells #[.int .i64 0, .int .i64 0] 23)) (w.heap.size + 1 + 1) 25 #[.int .i64 0, .int .i64 0, .int .i64 0, .string ⟨#[]⟩, .int .i64 0] := (Blk.new' _ _ _ (by simp)).alloc _
 have d0 : Blk ((((w.alloc (.cells #[.int .i64 1, .int .i64 an, .int .i64 as', .string aq, .int .i64 am] 25)).alloc (.cells #[.int .i64 1, .int .i64 bn, .int .i64 bs', .string bq, .int .i64 bm] 25)).alloc (.cells #[.int .i64 0, .int .i64 0, .int .i64 0, .string ⟨#[]⟩, .int .i64 0] 25)).alloc (.cells #[.int .i64 0, .int .i64 0] 23)) (w.heap.size + 1 + 1 + 1) 23 #[.int .i64 0, .int .i64 0] := Blk.new' _ _ _ (by simp)
 have R0 := Lib.hid r0
 have D0 := Lib.hid d0
 clear r0 d0
 go_enter Tryz.func59, Tryz.ntmps59
 obtain ⟨hlu, hllu, qu0, qu1, qu2, qu3, qu4, zu0, zu1, zu2, zu3, zu4⟩ := bf5 j0; (try simp at qu0 qu1 qu2 qu3 qu4); have Hj0 := Lib.hid j0; clear j0
 obtain ⟨hlv, hllv, qv0, qv1, qv2, qv3, qv4, zv0, zv1, zv2, zv3, zv4⟩ := bf5 i0; (try simp at qv0 qv1 qv2 qv3 qv4); have Hi0 := Lib.hid i0; clear i0
 go_wp2_with fail
 refine (KX.out _).mono ?_
 rintro e w1 ⟨rfl, hb1⟩
 have hb01 : Below w.heap.size w w1 := by (repeat' first | (with_reducible first | exact .refl _ _ | assumption | apply balloc | apply Below.drew | apply bset | refine bstep ?_ ‹_› | refine bturn ?_ ‹_› ?_) | go_size)
 have R1 := Lib.hid (R0.out.step hb1)
 have d1 := D0.out.step hb1
 clear R0 D0 hb1 qu0 zu0 qv0 zv0 qu1 zu1 qv1 zv1 qu2 zu2 qv2 zv2 qu3 zu3 qv3 zv3 qu4 zu4 qv4 zv4 hlu hllu hlv hllv Hj0 Hi0
 go_upto_region 13 with (refine wpList_store_blk d1 rfl _ _ _ (by rfl) _ (by rfl) (by rfl) (by repeat first | with_reducible first | exact d1 | apply Blk.alloc | apply Blk.drew | refine Blk.far ?_ (by simp <;> omega) _ | refine Blk.turn ?_ ‹_› (by omega)) (by rfl) (by kernel_rfl) (by simp [Value.oneCell']) ?_; intro wt d1n ht)
 have hb09 : Below w.heap.size w wt := bturn hb01 ht (by omega)
 have r9 := R1.out.turn ht (by omega)
 have d9 := d1n
 clear d1n d1 ht hb01
 rename World => w9
 by_cases he : re = 0
 · obtain ⟨rfl, rfl, rfl, rfl, rfl⟩ := HG.out.1 he
   have g9 : (re != 0) = false := by simpa using he
   clear he HG
   have hlx := d9.lt; have hllx := lts hlx; have qx0 := d9.cell 0; have qx1 := d9.cell 1; simp at qx0 qx1; have zx0 := d9.frozen 0; have zx1 := d9.frozen 1; have Hd9 := Lib.hid d9; clear d9
   go_wp2_with (refine wpList_store_blk r9 rfl _ _ _ (by rfl) _ (by rfl) (by rfl) (by repeat first | with_reducible first | exact r9 | apply Blk.alloc | apply Blk.drew | refine Blk.far ?_ (by simp <;> omega) _ | refine Blk.turn ?_ ‹_› (by omega)) (by rfl) (by kernel_rfl) (by simp [Value.oneCell']) ?_; intro wt r9n ht)
   refine ret_blk rfl r9n rfl Tryz.underlying25 rfl (by kernel_rfl) rfl ?_
   exact ⟨rfl, bturn hb09 ht (by omega)⟩
 · obtain ⟨rfl, rfl, rfl, rfl, rfl⟩ := HG.out.2 he
   have g9 : (re != 0) = true := by simpa using he
   clear he HG
   obtain ⟨n0, n1, n2, n3, n4, hnl⟩ := HN.out.step (w' := _) hb09
   have hnll := lts hnl
   go_wp2_with (refine wpList_store_blk r9 rfl _ _ _ (by rfl) _ (by rfl) (by rfl) (by repeat first | with_reducible first | exact r9 | apply Blk.alloc | apply Blk.drew | refine Blk.far ?_ (by simp <;> omega) _ | refine Blk.turn ?_ ‹_› (by omega)) (by rfl) (by kernel_rfl) (by simp [Value.oneCell']) ?_; intro wt r9n ht)
   refine ret_blk rfl r9n rfl Tryz.underlying25 rfl (by kernel_rfl) rfl ?_
   exact ⟨rfl, bturn hb09 ht (by omega)⟩
theorem rk_5 (an as' am bn bs' bm : Int) (aq bq : ByteArray) (rn rs xn xs xe : Int) (re dk dn ds dm : Int) (dq : ByteArray) (w : World)
   (HG : Hid ((re = 0 → dk = 1 ∧ dn = rn ∧ ds = rs ∧ dq = ⟨#[]⟩ ∧ dm = 0) ∧ (¬ re = 0 → dk = 0 ∧ dn = 0 ∧ ds = 0 ∧ dq = ⟨#[]⟩ ∧ dm = 0)))
   (HN : Hid (NU w))
   (KN : Hid (∀ W, Calls Tryz.prog 84 #[.agg #[.int .i64 bn, .int .i64 bs']] W fun e w' => e = .returned (.tuple #[.agg #[.int .i64 xn, .int .i64 xs], .int .i64 xe]) ∧ Below W.heap.size W w'))
   (KX : Hid (∀ W, Calls Tryz.prog 85 #[.agg #[.int .i64 an, .int .i64 as'], .agg #[.int .i64 xn, .int .i64 xs]] W fun e w' => e = .returned (.tuple #[.agg #[.int .i64 rn, .int .i64 rs], .int .i64 re]) ∧ Below W.heap.size W w')) :
   Calls Tryz.prog 59 #[.int .i64 5, .agg #[.int .i64 1, .int .i64 an, .int .i64 as', .string aq, .int .i64 am], .agg #[.int .i64 1, .int .i64 bn, .int .i64 bs', .string bq, .int .i64 bm]] w fun e w' => e = .returned (.agg #[.int .i64 dk, .int .i64 dn, .int .i64 ds, .string dq, .int .i64 dm]) ∧ Below w.heap.size w w' := by
 have j0 : Blk ((((w.alloc (.cells #[.int .i64 1, .int .i64 an, .int .i64 as', .string aq, .int .i64 am] 25)).alloc (.cells #[.int .i64 1, .int .i64 bn, .int .i64 bs', .string bq, .int .i64 bm] 25)).alloc (.cells #[.int .i64 0, .int .i64 0, .int .i64 0, .string ⟨#[]⟩, .int .i64 0] 25)).alloc (.cells #[.int .i64 0, .int .i64 0] 23)) w.heap.size 25 #[.int .i64 1, .int .i64 an, .int .i64 as', .string aq, .int .i64 am] := (((Blk.new _ _ _).alloc _).alloc _).alloc _
 have i0 : Blk ((((w.alloc (.cells #[.int .i64 1, .int .i64 an, .int .i64 as', .string aq, .int .i64 am] 25)).alloc (.cells #[.int .i64 1, .int .i64 bn, .int .i64 bs', .string bq, .int .i64 bm] 25)).alloc (.cells #[.int .i64 0, .int .i64 0, .int .i64 0, .string ⟨#[]⟩, .int .i64 0] 25)).alloc (.cells #[.int .i64 0, .int .i64 0] 23)) (w.heap.size + 1) 25 #[.int .i64 1, .int .i64 bn, .int .i64 bs', .string bq, .int .i64 bm] := ((Blk.new' _ _ _ (by simp)).alloc _).alloc _
 have r0 : Blk ((((w.alloc (.cells #[.int .i64 1, .int .i64 an, .int .i64 as', .string aq, .int .i64 am] 25)).alloc (.cells #[.int .i64 1, .int .i64 bn, .int .i64 bs', .string bq, .int .i64 bm] 25)).alloc (.cells #[.int .i64 0, .int .i64 0, .int .i64 0, .string ⟨#[]⟩, .int .i64 0] 25)).alloc (.cells #[.int .i64 0, .int .i64 0] 23)) (w.heap.size + 1 + 1) 25 #[.int .i64 0, .int .i64 0, .int .i64 0, .string ⟨#[]⟩, .int .i64 0] := (Blk.new' _ _ _ (by simp)).alloc _
 have d0 : Blk ((((w.alloc (.cells #[.int .i64 1, .int .i64 an, .int .i64 as', .string aq, .int .i64 am] 25)).alloc (.cells #[.int .i64 1, .int .i64 bn, .int .i64 bs', .string bq, .int .i64 bm] 25)).alloc (.cells #[.int .i64 0, .int .i64 0, .int .i64 0, .string ⟨#[]⟩, .int .i64 0] 25)).alloc (.cells #[.int .i64 0, .int .i64 0] 23)) (w.heap.size + 1 + 1 + 1) 23 #[.int .i64 0, .int .i64 0] := Blk.new' _ _ _ (by simp)
 have R0 := Lib.hid r0
 have D0 := Lib.hid d0
 have J0 := Lib.hid j0
 have I0 := Lib.hid i0
 clear r0 d0
 go_enter Tryz.func59, Tryz.ntmps59
 obtain ⟨hlu, hllu, qu0, qu1, qu2, qu3, qu4, zu0, zu1, zu2, zu3, zu4⟩ := bf5 j0; (try simp at qu0 qu1 qu2 qu3 qu4); have Hj0 := Lib.hid j0; clear j0
 obtain ⟨hlv, hllv, qv0, qv1, qv2, qv3, qv4, zv0, zv1, zv2, zv3, zv4⟩ := bf5 i0; (try simp at qv0 qv1 qv2 qv3 qv4); have Hi0 := Lib.hid i0; clear i0
 go_wp2_with fail
 refine (KN.out _).mono ?_
 rintro e w1 ⟨rfl, hb1⟩
 have hb01 : Below w.heap.size w w1 := by (repeat' first | (with_reducible first | exact .refl _ _ | assumption | apply balloc | apply Below.drew | apply bset | refine bstep ?_ ‹_› | refine bturn ?_ ‹_› ?_) | go_size)
 have R1 := Lib.hid (R0.out.step hb1)
 have D1 := Lib.hid (D0.out.step hb1)
 have J1 := Lib.hid (J0.out.step hb1)
 have i1 := I0.out.step hb1
 clear R0 D0 J0 I0 hb1 qu0 zu0 qv0 zv0 qu1 zu1 qv1 zv1 qu2 zu2 qv2 zv2 qu3 zu3 qv3 zv3 qu4 zu4 qv4 zv4 hlu hllu hlv hllv Hj0 Hi0
 have i1n : Blk ((w1.setCell ⟨w.heap.size + 1, 1, none⟩ (.int .i64 xn)).setCell ⟨w.heap.size + 1, 2, none⟩ (.int .i64 xs)) (w.heap.size + 1) 25 #[.int .i64 1, .int .i64 xn, .int .i64 xs, .string bq, .int .i64 bm] := by
   have := (i1.set_ 1 (.int .i64 xn)).set_ 2 (.int .i64 xs)
   simpa using this
 have ht : Turned w1 ((w1.setCell ⟨w.heap.size + 1, 1, none⟩ (.int .i64 xn)).setCell ⟨w.heap.size + 1, 2, none⟩ (.int .i64 xs)) (w.heap.size + 1) := (Turned.setCell _ _ _ _).trans (Turned.setCell _ _ _ _)
 have I1N := Lib.hid i1n
 have HT := Lib.hid ht
 clear i1n ht
 obtain ⟨hlv, hllv, qv0, qv1, qv2, qv3, qv4, zv0, zv1, zv2, zv3, zv4⟩ := bf5 i1; (try simp at qv0 qv1 qv2 qv3 qv4); have Hi1 := Lib.hid i1; clear i1
 go_upto_region 10 with fail
 generalize ((w1.setCell ⟨w.heap.size + 1, 1, none⟩ (.int .i64 xn)).setCell ⟨w.heap.size + 1, 2, none⟩ (.int .i64 xs)) = w2 at *
 have ht := HT.out
 have i2 := I1N.out
 have hb02 : Below w.heap.size w w2 := bturn hb01 ht (by omega)
 have R2 := Lib.hid (R1.out.turn ht (by omega))
 have D2 := Lib.hid (D1.out.turn ht (by omega))
 have j2 := J1.out.turn ht (by omega)
 clear R1 D1 J1 Hi1 ht hb01 I1N HT qv0 zv0 qv1 zv1 qv2 zv2 qv3 zv3 qv4 zv4 hlv hllv
 obtain ⟨hlu, hllu, qu0, qu1, qu2, qu3, qu4, zu0, zu1, zu2, zu3, zu4⟩ := bf5 j2; (try simp at qu0 qu1 qu2 qu3 qu4); have Hj2 := Lib.hid j2; clear j2
 obtain ⟨hlv, hllv, qv0, qv1, qv2, qv3, qv4, zv0, zv1, zv2, zv3, zv4⟩ := bf5 i2; (try simp at qv0 qv1 qv2 qv3 qv4); have Hi2 := Lib.hid i2; clear i2
 go_wp2_with fail
 refine (KX.out _).mono ?_
 rintro e w3 ⟨rfl, hb3⟩
 have hb03 : Below w.heap.size w w3 := bstep hb02 hb3
 have R3 := Lib.hid (R2.out.step hb3)
 have d3 := D2.out.step hb3
 clear R2 D2 hb3 hb02 qu0 zu0 qv0 zv0 qu1 zu1 qv1 zv1 qu2 zu2 qv2 zv2 qu3 zu3 qv3 zv3 qu4 zu4 qv4 zv4 hlu hllu hlv hllv Hj2 Hi2
 go_upto_region 13 with (refine wpList_store_blk d3 rfl _ _ _ (by rfl) _ (by rfl) (by rfl) (by repeat first | with_reducible first | exact d3 | apply Blk.alloc | apply Blk.drew | refine Blk.far ?_ (by simp <;> omega) _ | refine Blk.turn ?_ ‹_› (by omega)) (by rfl) (by kernel_rfl) (by simp [Value.oneCell']) ?_; intro wt d3n ht)
 have hb09 : Below w.heap.size w wt := bturn hb03 ht (by omega)
 have r9 := R3.out.turn ht (by omega)
 have d9 := d3n
 clear d3n d3 ht hb03
 rename World => w9
 by_cases he : re = 0
 · obtain ⟨rfl, rfl, rfl, rfl, rfl⟩ := HG.out.1 he
   have g9 : (re != 0) = false := by simpa using he
   clear he HG
   have hlx := d9.lt; have hllx := lts hlx; have qx0 := d9.cell 0; have qx1 := d9.cell 1; simp at qx0 qx1; have zx0 := d9.frozen 0; have zx1 := d9.frozen 1; have Hd9 := Lib.hid d9; clear d9
   go_wp2_with (refine wpList_store_blk r9 rfl _ _ _ (by rfl) _ (by rfl) (by rfl) (by repeat first | with_reducible first | exact r9 | apply Blk.alloc | apply Blk.drew | refine Blk.far ?_ (by simp <;> omega) _ | refine Blk.turn ?_ ‹_› (by omega)) (by rfl) (by kernel_rfl) (by simp [Value.oneCell']) ?_; intro wt r9n ht)
   refine ret_blk rfl r9n rfl Tryz.underlying25 rfl (by kernel_rfl) rfl ?_
   exact ⟨rfl, bturn hb09 ht (by omega)⟩
 · obtain ⟨rfl, rfl, rfl, rfl, rfl⟩ := HG.out.2 he
   have g9 : (re != 0) = true := by simpa using he
   clear he HG
   obtain ⟨n0, n1, n2, n3, n4, hnl⟩ := HN.out.step (w' := _) hb09
   have hnll := lts hnl
   go_wp2_with (refine wpList_store_blk r9 rfl _ _ _ (by rfl) _ (by rfl) (by rfl) (by repeat first | with_reducible first | exact r9 | apply Blk.alloc | apply Blk.drew | refine Blk.far ?_ (by simp <;> omega) _ | refine Blk.turn ?_ ‹_› (by omega)) (by rfl) (by kernel_rfl) (by simp [Value.oneCell']) ?_; intro wt r9n ht)
   refine ret_blk rfl r9n rfl Tryz.underlying25 rfl (by kernel_rfl) rfl ?_
   exact ⟨rfl, bturn hb09 ht (by omega)⟩
theorem dV_ways (r : Res) : (r.e = 0 → (dV r).k = 1 ∧ (dV r).n = r.n ∧ (dV r).s = r.s ∧ bs (dV r).t = ⟨#[]⟩ ∧ (dV r).m = 0) ∧ (¬ r.e = 0 → (dV r).k = 0 ∧ (dV r).n = 0 ∧ (dV r).s = 0 ∧ bs (dV r).t = ⟨#[]⟩ ∧ (dV r).m = 0) := by
 unfold dV
 exact ⟨fun h => by rw [if_pos h]; exact ⟨rfl, rfl, rfl, rfl, rfl⟩, fun h => by rw [if_neg h]; exact ⟨rfl, rfl, rfl, rfl, rfl⟩⟩
theorem reckon_vl (o : Int) (a b : Vl) (ha : VOk a) (hb : VOk b) (w : World) (hn : NU w) :
   Calls Tryz.prog 59 #[.int .i64 o, .agg (cellsV a), .agg (cellsV b)] w fun e w' => e = .returned (.agg (cellsV (reckS o a b))) ∧ Below w.heap.size w w' := by
 obtain ⟨ak, an, as', at', am⟩ := a
 obtain ⟨bk, bn, bs', bt', bm⟩ := b
 unfold reckS
 simp only
 by_cases h1 : ak = 1
 · subst h1
   by_cases h2 : bk = 1
   · subst h2
     rw [if_pos ⟨rfl, rfl⟩]
     by_cases h5 : o = 5
     · subst h5
       rw [if_pos rfl]
       have KN := Lib.hid fun W => neg_any bn bs' hb.n hb.s W
       have hx : I64 (negS bn bs').n ∧ I64 (negS bn bs').s := by
         unfold negS
         split
         · rename_i hs
           obtain ⟨b1, b2, b3, b4, _⟩ := sound_bd hs
           exact ⟨⟨by simp only; omega, by simp only; omega⟩, ⟨by simp only; omega, by simp only; omega⟩⟩
         · exact ⟨ok0, ok0⟩
       exact rk_5 an as' am bn bs' bm (bs at') (bs bt') _ _ _ _ _ _ _ _ _ _ _ w (Lib.hid (dV_ways (addS an as' (negS bn bs').n (negS bn bs').s))) (Lib.hid hn) KN (Lib.hid fun W => add_any an as' (negS bn bs').n (negS bn bs').s ha.n ha.s hx.1 hx.2 W)
     · rw [if_neg h5]
       by_cases h4 : o = 4
       · subst h4
         rw [if_pos rfl]
         exact rk_4 an as' am bn bs' bm (bs at') (bs bt') _ _ _ _ _ _ _ _ w (Lib.hid (dV_ways (addS an as' bn bs'))) (Lib.hid hn) (Lib.hid fun W => add_any an as' bn bs' ha.n ha.s hb.n hb.s W)
       · rw [if_neg h4]
         by_cases h6 : o = 6
         · subst h6
           rw [if_pos rfl]
           exact rk_6 an as' am bn bs' bm (bs at') (bs bt') _ _ _ _ _ _ _ _ w (Lib.hid (dV_ways (mulS an as' bn bs'))) (Lib.hid hn) (Lib.hid fun W => mul_any an as' bn bs' ha.n ha.s hb.n hb.s W)
         · rw [if_neg h6]
           exact rk_o o an as' am bn bs' bm (bs at') (bs bt') _ _ _ _ _ _ _ _ h5 h4 h6 w (Lib.hid (dV_ways (divS an as' bn bs'))) (Lib.hid hn) (Lib.hid fun W => div_any an as' bn bs' ha.n ha.s hb.n hb.s W)
   · rw [if_neg fun g => h2 g.2]
     exact rk_no2 o an as' am bk bn bs' bm (bs at') (bs bt') h2 w (Lib.hid hn)
 · rw [if_neg fun g => h1 g.1]
   exact rk_no1 o ak an as' am bk bn bs' bm (bs at') (bs bt') h1 w (Lib.hid hn)
end Go.Proofs.YtapilekangmcoaaGreatDoor
