/- The walk of value.order. The walks of calc.Equal, calc.Less and value.Compare. -/
import Derived.Test.YtapilekangmcoaaGreatDoorA24
import Derived.Test.YtapilekangmcoaaGreatDoorA23
set_option linter.unusedVariables false
set_option linter.unusedSimpArgs false
set_option maxHeartbeats 8000000
set_option maxRecDepth 100000
namespace Go.Proofs.YtapilekangmcoaaGreatDoor
open Go.RowKit
theorem ord_k (ak an as' am bk bn bs' bm : Int) (aq bq : ByteArray) (h : ¬ ak = bk) (w : World) :
   Calls Tryz.prog 70 #[.agg #[.int .i64 ak, .int .i64 an, .int .i64 as', .string aq, .int .i64 am], .agg #[.int .i64 bk, .int .i64 bn, .int .i64 bs', .string bq, .int .i64 bm]] w fun e w' => e = .returned (.int .i64 (cmpS ak bk)) ∧ Below w.heap.size w w' := by
 have g1 : (ak != bk) = true := by simpa using h
 clear h
 go_enter Tryz.func70, Tryz.ntmps70
 go_wp2_with fail
 refine (cmp_any _ _ _).mono ?_
 rintro e w1 ⟨rfl, rfl⟩
 go_wp2_with fail
 go_returns
 exact ⟨rfl, by (repeat' first | (with_reducible first | exact .refl _ _ | assumption | apply balloc | apply Below.drew | apply bset | refine bstep ?_ ‹_› | refine bturn ?_ ‹_› ?_) | go_size)⟩
theorem ord_n (an as' am bn bs' bm x y : Int) (aq bq : ByteArray) (KC : Hid (∀ W, Calls Tryz.prog 109 #[.agg #[.int .i64 an, .int .i64 as'], .agg #[.int .i64 bn, .int .i64 bs']] W fun e w' => e = .returned (.tuple #[.int .i64 x, .int .i64 y]) ∧ Below W.heap.size W w')) (w : World) :
   Calls Tryz.prog 70 #[.agg #[.int .i64 1, .int .i64 an, .int .i64 as', .string aq, .int .i64 am], .agg #[.int .i64 1, .int .i64 bn, .int .i64 bs', .string bq, .int .i64 bm]] w fun e w' => e = .returned (.int .i64 x) ∧ Below w.heap.size w w' := by
 go_enter Tryz.func70, Tryz.ntmps70
 go_wp2_with fail
 refine (KC.out _).mono ?_
 rintro e w1 ⟨rfl, hb1⟩
 go_wp2_with fail
 go_returns
 exact ⟨rfl, by (repeat' first | (with_reducible first | exact .refl _ _ | assumption | apply balloc | apply Below.drew | apply bset | refine bstep ?_ ‹_› | refine bturn ?_ ‹_› ?_) | go_size)⟩
theorem ord_t (k an as' am bn bs' bm x : Int) (aq bq : ByteArray) (h : ¬ k = 1) (KC : Hid (∀ W, Calls Tryz.prog 111 #[.string aq, .string bq] W fun e w' => e = .returned (.int .i64 x) ∧ W = w')) (w : World) :
   Calls Tryz.prog 70 #[.agg #[.int .i64 k, .int .i64 an, .int .i64 as', .string aq, .int .i64 am], .agg #[.int .i64 k, .int .i64 bn, .int .i64 bs', .string bq, .int .i64 bm]] w fun e w' => e = .returned (.int .i64 (if x = 0 then cmpS am bm else x)) ∧ Below w.heap.size w w' := by
 have g1 : (k == 1) = false := by simpa using h
 clear h
 obtain ⟨y, hy⟩ : ∃ y, cmpS am bm = y := ⟨_, rfl⟩
 have KI := Lib.hid (fun (W : World) => cmp_any am bm W)
 rw [hy] at KI ⊢
 clear hy
 have KO := Lib.hid (fun (g c : Nat) (T : TypeId) (W : World) (h : Blk W g T #[.int .i64 x, .int .i64 y]) => or_walk g c T x y W h)
 obtain ⟨z, hz⟩ : ∃ z, (if x = 0 then y else x) = z := ⟨_, rfl⟩
 rw [hz] at KO ⊢
 clear hz
 go_enter Tryz.func70, Tryz.ntmps70
 go_wp2_with fail
 go_region_held3 (fun w' => (w'.cell? ⟨w.heap.size, 3, none⟩ = some (.string aq)) ∧ (w'.cell? ⟨w.heap.size, 4, none⟩ = some (.int .i64 am)) ∧ (w'.cell? ⟨w.heap.size + 1, 3, none⟩ = some (.string bq)) ∧ (w'.cell? ⟨w.heap.size + 1, 4, none⟩ = some (.int .i64 bm)) ∧ Below w.heap.size w w') ((go_split_ands; (repeat' apply And.intro) <;> first | assumption | exact keep1 (by assumption) (by assumption) | exact keepa2 (by assumption) | (simp [go_sem]; done) | (repeat' first | (with_reducible first | apply bdrewN | exact .refl _ _ | assumption | apply balloc | apply Below.drew | apply bset | refine bstep ?_ ‹_› | refine bturn ?_ ‹_› ?_) | go_size)))
   (first
     | (go_at_call 111; refine (KC.out _).mono ?_; rintro e w' ⟨rfl, rfl⟩)
     | (go_at_call 108; refine (KI.out _).mono ?_; rintro e w' ⟨rfl, rfl⟩)
     | (go_at_call 110; refine (KO.out _ _ _ _ (by first | exact Blk.new _ _ _ | exact Blk.new' _ _ _ (by simp) | exact (Blk.new' _ _ _ (by simp)).drew)).mono ?_; rintro e w' ⟨rfl, hb'⟩))
 go_split_ands
 go_wp2_with fail
 go_returns
 exact ⟨rfl, by assumption⟩
theorem ord_vl (a b : Vl) (ha : VOk a) (hb : VOk b) (sa : vSound a) (sb : vSound b) (w : World) : Calls Tryz.prog 70 #[.agg (cellsV a), .agg (cellsV b)] w fun e w' => e = .returned (.int .i64 (ordC a b)) ∧ Below w.heap.size w w' := by
 obtain ⟨ak, an, as', at', am⟩ := a
 obtain ⟨bk, bn, bs', bt', bm⟩ := b
 unfold ordC
 simp only
 by_cases h : ak = bk
 · subst h
   rw [if_pos rfl]
   by_cases h1 : ak = 1
   · subst h1
     rw [if_pos rfl]
     have s1 : soundS an as' = true := by
       unfold vSound at sa
       simp only at sa
       rcases sa with s | s | s | s | s
       case inr.inl => exact s.2.1
       all_goals exact absurd s.1 (by decide)
     have s2 : soundS bn bs' = true := by
       unfold vSound at sb
       simp only at sb
       rcases sb with s | s | s | s | s
       case inr.inl => exact s.2.1
       all_goals exact absurd s.1 (by decide)
     have hc := fun W => compare_any an as' bn bs' ha.n ha.s hb.n hb.s W
     have e : cmpD an as' bn bs' = (cmpS (unitsS an as') (unitsS bn bs'), 0) := by unfold cmpD; rw [s1, s2]; rfl
     rw [e] at hc
     exact ord_n an as' am bn bs' bm _ _ (bs at') (bs bt') (Lib.hid hc) w
   · rw [if_neg h1]
     exact ord_t ak an as' am bn bs' bm _ (bs at') (bs bt') h1 (Lib.hid fun W => cmpt_walk _ _ _ _ (bs_toList _) (bs_toList _) W) w
 · rw [if_neg h]
   exact ord_k ak an as' am bk bn bs' bm (bs at') (bs bt') h w
end Go.Proofs.YtapilekangmcoaaGreatDoor
namespace Go.Proofs.YtapilekangmcoaaGreatDoor
open Go.RowKit Go.Shelf
attribute [local go_sem high] run_vl_eql run_vl_neq
/-- The variable that holds what is not known. -/
structure NU (w : World) : Prop where
 c0 : w.cell? ⟨0, 0, none⟩ = some (.int .i64 0)
 c1 : w.cell? ⟨0, 1, none⟩ = some (.int .i64 0)
 c2 : w.cell? ⟨0, 2, none⟩ = some (.int .i64 0)
 c3 : w.cell? ⟨0, 3, none⟩ = some (.string ⟨#[]⟩)
 c4 : w.cell? ⟨0, 4, none⟩ = some (.int .i64 0)
 lt : 0 < w.heap.size
theorem NU.step {w w' : World} (h : NU w) (hb : Below w.heap.size w w') : NU w' := ⟨keep1 hb h.c0, keep1 hb h.c1, keep1 hb h.c2, keep1 hb h.c3, keep1 hb h.c4, Nat.lt_of_lt_of_le h.lt hb.size⟩
theorem eq_walk (ak an as' am bk bn bs' bm : Int) (aq bq : ByteArray) (dk dn ds dm tk tn ts tm : Int) (dq tq : ByteArray) (e sa sb : Bool) (he : vlq ak an as' aq am bk bn bs' bq bm = e) (w : World)
   (HN : Hid (NU w))
   (HG : Hid ((sa = false → (dk = 0 ∧ dn = 0 ∧ ds = 0 ∧ dq = ⟨#[]⟩ ∧ dm = 0)) ∧ (sb = false → (dk = 0 ∧ dn = 0 ∧ ds = 0 ∧ dq = ⟨#[]⟩ ∧ dm = 0)) ∧ (sa = true → sb = true → (ak = 0 ∨ bk = 0 ∨ ak = bk → (dk = tk ∧ dn = tn ∧ ds = ts ∧ dq = tq ∧ dm = tm)) ∧ (¬ (ak = 0 ∨ bk = 0 ∨ ak = bk) → (dk = 0 ∧ dn = 0 ∧ ds = 0 ∧ dq = ⟨#[]⟩ ∧ dm = 0)))))
   (SA : Hid (∀ W, Below w.heap.size w W → Calls Tryz.prog 32 #[.agg #[.int .i64 ak, .int .i64 an, .int .i64 as', .string aq, .int .i64 am]] W fun e w' => e = .returned (.bool sa) ∧ Below W.heap.size W w'))
   (SB : Hid (∀ W, Below w.heap.size w W → Calls Tryz.prog 32 #[.agg #[.int .i64 bk, .int .i64 bn, .int .i64 bs', .string bq, .int .i64 bm]] W fun e w' => e = .returned (.bool sb) ∧ Below W.heap.size W w'))
   (KT : Hid (∀ W, Below w.heap.size w W → Calls Tryz.prog 41 #[.bool e] W fun e w' => e = .returned (.agg #[.int .i64 tk, .int .i64 tn, .int .i64 ts, .string tq, .int .i64 tm]) ∧ Below W.heap.size W w')) :
   Calls Tryz.prog 17 #[.agg #[.int .i64 ak, .int .i64 an, .int .i64 as', .string aq, .int .i64 am], .agg #[.int .i64 bk, .int .i64 bn, .int .i64 bs', .string bq, .int .i64 bm]] w fun e w' => e = .returned (.agg #[.int .i64 dk, .int .i64 dn, .int .i64 ds, .string dq, .int .i64 dm]) ∧ Below w.heap.size w w' := by
 have HE := Lib.hid he
 clear he
 have j0 : Blk (((w.alloc (.cells #[.int .i64 ak, .int .i64 an, .int .i64 as', .string aq, .int .i64 am] 25)).alloc (.cells #[.int .i64 bk, .int .i64 bn, .int .i64 bs', .string bq, .int .i64 bm] 25)).alloc (.cells #[.int .i64 0, .int .i64 0, .int .i64 0, .string ⟨#[]⟩, .int .i64 0] 25)) w.heap.size 25 #[.int .i64 ak, .int .i64 an, .int .i64 as', .string aq, .int .i64 am] := ((Blk.new _ _ _).alloc _).alloc _
 have i0 : Blk (((w.alloc (.cells #[.int .i64 ak, .int .i64 an, .int .i64 as', .string aq, .int .i64 am] 25)).alloc (.cells #[.int .i64 bk, .int .i64 bn, .int .i64 bs', .string bq, .int .i64 bm] 25)).alloc (.cells #[.int .i64 0, .int .i64 0, .int .i64 0, .string ⟨#[]⟩, .int .i64 0] 25)) (w.heap.size + 1) 25 #[.int .i64 bk, .int .i64 bn, .int .i64 bs', .string bq, .int .i64 bm] := (Blk.new' _ _ _ (by simp)).alloc _
 have r0 : Blk (((w.alloc (.cells #[.int .i64 ak, .int .i64 an, .int .i64 as', .string aq, .int .i64 am] 25)).alloc (.cells #[.int .i64 bk, .int .i64 bn, .int .i64 bs', .string bq, .int .i64 bm] 25)).alloc (.cells #[.int .i64 0, .int .i64 0, .int .i64 0, .string ⟨#[]⟩, .int .i64 0] 25)) (w.heap.size + 1 + 1) 25 #[.int .i64 0, .int .i64 0, .int .i64 0, .string ⟨#[]⟩, .int .i64 0] := Blk.new' _ _ _ (by simp)
 have R0 := Lib.hid r0
 clear r0
 have J0 := Lib.hid j0
 have I0 := Lib.hid i0
 go_enter Tryz.func17, Tryz.ntmps17
 obtain ⟨hlu, hllu, qu0, qu1, qu2, qu3, qu4, zu0, zu1, zu2, zu3, zu4⟩ := bf5 j0; (try simp at qu0 qu1 qu2 qu3 qu4); have Hj0 := Lib.hid j0; clear j0
 obtain ⟨hlv, hllv, qv0, qv1, qv2, qv3, qv4, zv0, zv1, zv2, zv3, zv4⟩ := bf5 i0; (try simp at qv0 qv1 qv2 qv3 qv4); have Hi0 := Lib.hid i0; clear i0
 go_wp2_with fail
 refine (SA.out _ (by (repeat' first | (with_reducible first | exact .refl _ _ | assumption | apply balloc | apply Below.drew | apply bset | refine bstep ?_ ‹_› | refine bturn ?_ ‹_› ?_) | go_size))).mono ?_
 rintro e w1 ⟨rfl, hb1⟩
 have hb01 : Below w.heap.size w w1 := by (repeat' first | (with_reducible first | exact .refl _ _ | assumption | apply balloc | apply Below.drew | apply bset | refine bstep ?_ ‹_› | refine bturn ?_ ‹_› ?_) | go_size)
 have j1 := J0.out.step hb1
 have J1 := Lib.hid j1
 have i1 := I0.out.step hb1
 have I1 := Lib.hid i1
 have r1 := R0.out.step hb1
 have R1 := Lib.hid r1
 clear qu0 zu0 qu1 zu1 qu2 zu2 qu3 zu3 qu4 zu4 hlu hllu
 clear qv0 zv0 qv1 zv1 qv2 zv2 qv3 zv3 qv4 zv4 hlv hllv
 clear Hj0 Hi0 J0 I0 hb1
 clear R0
 obtain ⟨hlu, hllu, qu0, qu1, qu2, qu3, qu4, zu0, zu1, zu2, zu3, zu4⟩ := bf5 j1; (try simp at qu0 qu1 qu2 qu3 qu4); have Hj1 := Lib.hid j1; clear j1
 obtain ⟨hlv, hllv, qv0, qv1, qv2, qv3, qv4, zv0, zv1, zv2, zv3, zv4⟩ := bf5 i1; (try simp at qv0 qv1 qv2 qv3 qv4); have Hi1 := Lib.hid i1; clear i1
 cases sa with
 | false =>
   obtain ⟨rfl, rfl, rfl, rfl, rfl⟩ := HG.out.1 (by simp)
   obtain ⟨n0, n1, n2, n3, n4, hnl⟩ := HN.out.step hb01
   have hnll := lts hnl
   have r9 := R1.out
   go_wp2_with (refine wpList_store_blk r9 rfl _ _ _ (by rfl) _ (by rfl) (by rfl) (by repeat first | with_reducible first | exact r9 | apply Blk.alloc | apply Blk.drew | refine Blk.far ?_ (by simp <;> omega) _ | refine Blk.turn ?_ ‹_› (by omega)) (by rfl) (by kernel_rfl) (by simp [Value.oneCell']) ?_; intro wt r9n ht)
   refine ret_blk rfl r9n rfl Tryz.underlying25 rfl (by kernel_rfl) rfl ?_
   exact ⟨rfl, bturn hb01 ht (by omega)⟩
 | true =>
   go_wp2_with fail
   refine (SB.out _ hb01).mono ?_
   rintro e w2 ⟨rfl, hb2⟩
   have hb02 : Below w.heap.size w w2 := bstep hb01 hb2
   have j2 := J1.out.step hb2
   have J2 := Lib.hid j2
   have i2 := I1.out.step hb2
   have I2 := Lib.hid i2
   have r2 := R1.out.step hb2
   have R2 := Lib.hid r2
   clear qu0 zu0 qu1 zu1 qu2 zu2 qu3 zu3 qu4 zu4 hlu hllu
   clear qv0 zv0 qv1 zv1 qv2 zv2 qv3 zv3 qv4 zv4 hlv hllv
   clear Hj1 Hi1 J1 I1 hb2
   clear R1
   obtain ⟨hlu, hllu, qu0, qu1, qu2, qu3, qu4, zu0, zu1, zu2, zu3, zu4⟩ := bf5 j2; (try simp at qu0 qu1 qu2 qu3 qu4); have Hj2 := Lib.hid j2; clear j2
   obtain ⟨hlv, hllv, qv0, qv1, qv2, qv3, qv4, zv0, zv1, zv2, zv3, zv4⟩ := bf5 i2; (try simp at qv0 qv1 qv2 qv3 qv4); have Hi2 := Lib.hid i2; clear i2
   cases sb with
   | false =>
     obtain ⟨rfl, rfl, rfl, rfl, rfl⟩ := HG.out.2.1 (by simp)
     obtain ⟨n0, n1, n2, n3, n4, hnl⟩ := HN.out.step hb02
     have hnll := lts hnl
     have r9 := R2.out
     go_wp2_with (refine wpList_store_blk r9 rfl _ _ _ (by rfl) _ (by rfl) (by rfl) (by repeat first | with_reducible first | exact r9 | apply Blk.alloc | apply Blk.drew | refine Blk.far ?_ (by simp <;> omega) _ | refine Blk.turn ?_ ‹_› (by omega)) (by rfl) (by kernel_rfl) (by simp [Value.oneCell']) ?_; intro wt r9n ht)
     refine ret_blk rfl r9n rfl Tryz.underlying25 rfl (by kernel_rfl) rfl ?_
     exact ⟨rfl, bturn hb02 ht (by omega)⟩
   | true =>
     by_cases h1 : ak = 0
     · obtain ⟨rfl, rfl, rfl, rfl, rfl⟩ := (HG.out.2.2 (by simp) (by simp)).1 (.inl h1)
       have g1 : (ak == 0) = true := by simpa using h1
       clear h1
       go_wp2_with fail
       rw [HE.out]
       refine (KT.out _ hb02).mono ?_
       rintro e w3 ⟨rfl, hb3⟩
       have hb03 := bstep hb02 hb3
       have r9 := R2.out.step hb3
       go_wp2_with (refine wpList_store_blk r9 rfl _ _ _ (by rfl) _ (by rfl) (by rfl) (by repeat first | with_reducible first | exact r9 | apply Blk.alloc | apply Blk.drew | refine Blk.far ?_ (by simp <;> omega) _ | refine Blk.turn ?_ ‹_› (by omega)) (by rfl) (by kernel_rfl) (by simp [Value.oneCell']) ?_; intro wt r9n ht)
       refine ret_blk rfl r9n rfl Tryz.underlying25 rfl (by kernel_rfl) rfl ?_
       exact ⟨rfl, bturn hb03 ht (by omega)⟩
     have g1 : (ak == 0) = false := by simpa using h1
     by_cases h2 : bk = 0
     · obtain ⟨rfl, rfl, rfl, rfl, rfl⟩ := (HG.out.2.2 (by simp) (by simp)).1 (.inr (.inl h2))
       have g2 : (bk == 0) = true := by simpa using h2
       clear h1 h2
       go_wp2_with fail
       rw [HE.out]
       refine (KT.out _ hb02).mono ?_
       rintro e w3 ⟨rfl, hb3⟩
       have hb03 := bstep hb02 hb3
       have r9 := R2.out.step hb3
       go_wp2_with (refine wpList_store_blk r9 rfl _ _ _ (by rfl) _ (by rfl) (by rfl) (by repeat first | with_reducible first | exact r9 | apply Blk.alloc | apply Blk.drew | refine Blk.far ?_ (by simp <;> omega) _ | refine Blk.turn ?_ ‹_› (by omega)) (by rfl) (by kernel_rfl) (by simp [Value.oneCell']) ?_; intro wt r9n ht)
       refine ret_blk rfl r9n rfl Tryz.underlying25 rfl (by kernel_rfl) rfl ?_
       exact ⟨rfl, bturn hb03 ht (by omega)⟩
     have g2 : (bk == 0) = false := by simpa using h2
     by_cases h3 : ak = bk
     · obtain ⟨rfl, rfl, rfl, rfl, rfl⟩ := (HG.out.2.2 (by simp) (by simp)).1 (.inr (.inr h3))
       have g3 : (ak == bk) = true := by simpa using h3
       clear h1 h2 h3
       go_wp2_with fail
       rw [HE.out]
       refine (KT.out _ hb02).mono ?_
       rintro e w3 ⟨rfl, hb3⟩
       have hb03 := bstep hb02 hb3
       have r9 := R2.out.step hb3
       go_wp2_with (refine wpList_store_blk r9 rfl _ _ _ (by rfl) _ (by rfl) (by rfl) (by repeat first | with_reducible first | exact r9 | apply Blk.alloc | apply Blk.drew | refine Blk.far ?_ (by simp <;> omega) _ | refine Blk.turn ?_ ‹_› (by omega)) (by rfl) (by kernel_rfl) (by simp [Value.oneCell']) ?_; intro wt r9n ht)
       refine ret_blk rfl r9n rfl Tryz.underlying25 rfl (by kernel_rfl) rfl ?_
       exact ⟨rfl, bturn hb03 ht (by omega)⟩
     have g3 : (ak == bk) = false := by simpa using h3
     obtain ⟨rfl, rfl, rfl, rfl, rfl⟩ := (HG.out.2.2 (by simp) (by simp)).2 (by omega)
     clear h1 h2 h3
     obtain ⟨n0, n1, n2, n3, n4, hnl⟩ := HN.out.step hb02
     have hnll := lts hnl
     have r9 := R2.out
     go_wp2_with (refine wpList_store_blk r9 rfl _ _ _ (by rfl) _ (by rfl) (by rfl) (by repeat first | with_reducible first | exact r9 | apply Blk.alloc | apply Blk.drew | refine Blk.far ?_ (by simp <;> omega) _ | refine Blk.turn ?_ ‹_› (by omega)) (by rfl) (by kernel_rfl) (by simp [Value.oneCell']) ?_; intro wt r9n ht)
     refine ret_blk rfl r9n rfl Tryz.underlying25 rfl (by kernel_rfl) rfl ?_
     exact ⟨rfl, bturn hb02 ht (by omega)⟩
theorem equal_vl (a b : Vl) (ha : VOk a) (hb : VOk b) (m : Int) (w : World) (hw : OKW m w) (hn : NU w) :
   Calls Tryz.prog 17 #[.agg (cellsV a), .agg (cellsV b)] w fun e w' => e = .returned (.agg (cellsV (eqC a b))) ∧ Below w.heap.size w w' := by
 have z0 : ∀ {d : Vl}, d = zeroV → d.k = 0 ∧ d.n = 0 ∧ d.s = 0 ∧ bs d.t = ⟨#[]⟩ ∧ d.m = 0 := fun h => by rw [h]; exact ⟨rfl, rfl, rfl, rfl, rfl⟩
 refine eq_walk _ _ _ _ _ _ _ _ _ _ (eqC a b).k (eqC a b).n (eqC a b).s (eqC a b).m _ _ _ _ (bs (eqC a b).t) _ _ (sd a) (sd b) (vlq_eq a b) w (Lib.hid hn) (Lib.hid ⟨fun h => z0 ?_, fun h => z0 ?_, fun h1 h2 => ⟨fun h => ?_, fun h => z0 ?_⟩⟩) (Lib.hid fun W h => sd_any a ha m W (hw.step h)) (Lib.hid fun W h => sd_any b hb m W (hw.step h)) (Lib.hid fun W _ => truth_vl (vEq a b) W)
 · unfold eqC; rw [h, if_neg (by simp)]
 · unfold eqC; rw [h, if_neg (by simp)]
 · have e : eqC a b = truV (vEq a b) := by unfold eqC; rw [h1, h2, if_pos (by simp), if_pos h]
   rw [e]
   exact ⟨rfl, rfl, rfl, rfl, rfl⟩
 · unfold eqC; rw [h1, h2, if_pos (by simp), if_neg h]
theorem vc_walk (ak an as' am bk bn bs' bm : Int) (aq bq : ByteArray) (r x er : Int) (sa sb : Bool) (w : World) (HG : Hid ((sa = false → x = 0 ∧ er = 2) ∧ (sb = false → x = 0 ∧ er = 2) ∧ (sa = true → sb = true → x = r ∧ er = 0)))
   (SA : Hid (∀ W, Below w.heap.size w W → Calls Tryz.prog 32 #[.agg #[.int .i64 ak, .int .i64 an, .int .i64 as', .string aq, .int .i64 am]] W fun e w' => e = .returned (.bool sa) ∧ Below W.heap.size W w'))
   (SB : Hid (∀ W, Below w.heap.size w W → Calls Tryz.prog 32 #[.agg #[.int .i64 bk, .int .i64 bn, .int .i64 bs', .string bq, .int .i64 bm]] W fun e w' => e = .returned (.bool sb) ∧ Below W.heap.size W w'))
   (KO : Hid (sa = true → sb = true → ∀ W, Below w.heap.size w W → Calls Tryz.prog 70 #[.agg #[.int .i64 ak, .int .i64 an, .int .i64 as', .string aq, .int .i64 am], .agg #[.int .i64 bk, .int .i64 bn, .int .i64 bs', .string bq, .int .i64 bm]] W fun e w' => e = .returned (.int .i64 r) ∧ Below W.heap.size W w')) :
   Calls Tryz.prog 43 #[.agg #[.int .i64 ak, .int .i64 an, .int .i64 as', .string aq, .int .i64 am], .agg #[.int .i64 bk, .int .i64 bn, .int .i64 bs', .string bq, .int .i64 bm]] w fun e w' => e = .returned (.tuple #[.int .i64 x, .int .i64 er]) ∧ Below w.heap.size w w' := by
 have j0 : Blk ((w.alloc (.cells #[.int .i64 ak, .int .i64 an, .int .i64 as', .string aq, .int .i64 am] 25)).alloc (.cells #[.int .i64 bk, .int .i64 bn, .int .i64 bs', .string bq, .int .i64 bm] 25)) w.heap.size 25 #[.int .i64 ak, .int .i64 an, .int .i64 as', .string aq, .int .i64 am] := (Blk.new _ _ _).alloc _
 have i0 : Blk ((w.alloc (.cells #[.int .i64 ak, .int .i64 an, .int .i64 as', .string aq, .int .i64 am] 25)).alloc (.cells #[.int .i64 bk, .int .i64 bn, .int .i64 bs', .string bq, .int .i64 bm] 25)) (w.heap.size + 1) 25 #[.int .i64 bk, .int .i64 bn, .int .i64 bs', .string bq, .int .i64 bm] := Blk.new' _ _ _ (by simp)
 have J0 := Lib.hid j0
 have I0 := Lib.hid i0
 go_enter Tryz.func43, Tryz.ntmps43
 obtain ⟨hlu, hllu, qu0, qu1, qu2, qu3, qu4, zu0, zu1, zu2, zu3, zu4⟩ := bf5 j0; (try simp at qu0 qu1 qu2 qu3 qu4); have Hj0 := Lib.hid j0; clear j0
 obtain ⟨hlv, hllv, qv0, qv1, qv2, qv3, qv4, zv0, zv1, zv2, zv3, zv4⟩ := bf5 i0; (try simp at qv0 qv1 qv2 qv3 qv4); have Hi0 := Lib.hid i0; clear i0
 go_wp2_with fail
 refine (SA.out _ (by (repeat' first | (with_reducible first | exact .refl _ _ | assumption | apply balloc | apply Below.drew | apply bset | refine bstep ?_ ‹_› | refine bturn ?_ ‹_› ?_) | go_size))).mono ?_
 rintro e w1 ⟨rfl, hb1⟩
 have hb01 : Below w.heap.size w w1 := by (repeat' first | (with_reducible first | exact .refl _ _ | assumption | apply balloc | apply Below.drew | apply bset | refine bstep ?_ ‹_› | refine bturn ?_ ‹_› ?_) | go_size)
 have j1 := J0.out.step hb1
 have J1 := Lib.hid j1
 have i1 := I0.out.step hb1
 have I1 := Lib.hid i1
 clear qu0 zu0 qu1 zu1 qu2 zu2 qu3 zu3 qu4 zu4 hlu hllu
 clear qv0 zv0 qv1 zv1 qv2 zv2 qv3 zv3 qv4 zv4 hlv hllv
 clear Hj0 Hi0 J0 I0 hb1
 obtain ⟨hlu, hllu, qu0, qu1, qu2, qu3, qu4, zu0, zu1, zu2, zu3, zu4⟩ := bf5 j1; (try simp at qu0 qu1 qu2 qu3 qu4); have Hj1 := Lib.hid j1; clear j1
 obtain ⟨hlv, hllv, qv0, qv1, qv2, qv3, qv4, zv0, zv1, zv2, zv3, zv4⟩ := bf5 i1; (try simp at qv0 qv1 qv2 qv3 qv4); have Hi1 := Lib.hid i1; clear i1
 cases sa with
 | false =>
   obtain ⟨rfl, rfl⟩ := HG.out.1 (by simp)
   go_wp2_with fail
   go_returns
   exact ⟨rfl, hb01⟩
 | true =>
   go_wp2_with fail
   refine (SB.out _ hb01).mono ?_
   rintro e w2 ⟨rfl, hb2⟩
   have hb02 : Below w.heap.size w w2 := bstep hb01 hb2
   have j2 := J1.out.step hb2
   have J2 := Lib.hid j2
   have i2 := I1.out.step hb2
   have I2 := Lib.hid i2
   clear qu0 zu0 qu1 zu1 qu2 zu2 qu3 zu3 qu4 zu4 hlu hllu
   clear qv0 zv0 qv1 zv1 qv2 zv2 qv3 zv3 qv4 zv4 hlv hllv
   clear Hj1 Hi1 J1 I1 hb2
   obtain ⟨hlu, hllu, qu0, qu1, qu2, qu3, qu4, zu0, zu1, zu2, zu3, zu4⟩ := bf5 j2; (try simp at qu0 qu1 qu2 qu3 qu4); have Hj2 := Lib.hid j2; clear j2
   obtain ⟨hlv, hllv, qv0, qv1, qv2, qv3, qv4, zv0, zv1, zv2, zv3, zv4⟩ := bf5 i2; (try simp at qv0 qv1 qv2 qv3 qv4); have Hi2 := Lib.hid i2; clear i2
   cases sb with
   | false =>
     obtain ⟨rfl, rfl⟩ := HG.out.2.1 (by simp)
     go_wp2_with fail
     go_returns
     exact ⟨rfl, hb02⟩
   | true =>
     obtain ⟨rfl, rfl⟩ := HG.out.2.2 (by simp) (by simp)
     go_wp2_with fail
     refine (KO.out (by simp) (by simp) _ hb02).mono ?_
     rintro e w3 ⟨rfl, hb3⟩
     have hb03 := bstep hb02 hb3
     go_wp2_with fail
     go_returns
     exact ⟨rfl, hb03⟩
theorem vcomp_vl (a b : Vl) (ha : VOk a) (hb : VOk b) (m : Int) (w : World) (hw : OKW m w) :
   Calls Tryz.prog 43 #[.agg (cellsV a), .agg (cellsV b)] w fun e w' => e = .returned (.tuple #[.int .i64 (if (sd a && sd b) = true then ordC a b else 0), .int .i64 (if (sd a && sd b) = true then 0 else 2)]) ∧ Below w.heap.size w w' := by
 refine vc_walk _ _ _ _ _ _ _ _ _ _ (ordC a b) _ _ (sd a) (sd b) w (Lib.hid ⟨fun h => ?_, fun h => ?_, fun h1 h2 => ?_⟩) (Lib.hid fun W h => sd_any a ha m W (hw.step h)) (Lib.hid fun W h => sd_any b hb m W (hw.step h)) (Lib.hid fun h1 h2 W _ => ord_vl a b ha hb ((sd_iff a).1 h1) ((sd_iff b).1 h2) W)
 · rw [h]; simp
 · rw [h]; simp
 · rw [h1, h2]; simp
theorem le_walk (ak an as' am bk bn bs' bm : Int) (aq bq : ByteArray) (dk dn ds dm tk tn ts tm : Int) (dq tq : ByteArray) (r er : Int) (e : Bool) (he : decide (r < 0) = e) (w : World)
   (HN : Hid (NU w))
   (HG : Hid (((er = 0 ∧ ak = bk ∧ ¬ ak = 0 ∧ ¬ ak = 3) → (dk = tk ∧ dn = tn ∧ ds = ts ∧ dq = tq ∧ dm = tm)) ∧ (¬ (er = 0 ∧ ak = bk ∧ ¬ ak = 0 ∧ ¬ ak = 3) → (dk = 0 ∧ dn = 0 ∧ ds = 0 ∧ dq = ⟨#[]⟩ ∧ dm = 0))))
   (KC : Hid (∀ W, Below w.heap.size w W → Calls Tryz.prog 43 #[.agg #[.int .i64 ak, .int .i64 an, .int .i64 as', .string aq, .int .i64 am], .agg #[.int .i64 bk, .int .i64 bn, .int .i64 bs', .string bq, .int .i64 bm]] W fun e w' => e = .returned (.tuple #[.int .i64 r, .int .i64 er]) ∧ Below W.heap.size W w'))
   (KT : Hid (∀ W, Below w.heap.size w W → Calls Tryz.prog 41 #[.bool e] W fun e w' => e = .returned (.agg #[.int .i64 tk, .int .i64 tn, .int .i64 ts, .string tq, .int .i64 tm]) ∧ Below W.heap.size W w')) :
   Calls Tryz.prog 19 #[.agg #[.int .i64 ak, .int .i64 an, .int .i64 as', .string aq, .int .i64 am], .agg #[.int .i64 bk, .int .i64 bn, .int .i64 bs', .string bq, .int .i64 bm]] w fun e w' => e = .returned (.agg #[.int .i64 dk, .int .i64 dn, .int .i64 ds, .string dq, .int .i64 dm]) ∧ Below w.heap.size w w' := by
 have j0 : Blk (((w.alloc (.cells #[.int .i64 ak, .int .i64 an, .int .i64 as', .string aq, .int .i64 am] 25)).alloc (.cells #[.int .i64 bk, .int .i64 bn, .int .i64 bs', .string bq, .int .i64 bm] 25)).alloc (.cells #[.int .i64 0, .int .i64 0, .int .i64 0, .string ⟨#[]⟩, .int .i64 0] 25)) w.heap.size 25 #[.int .i64 ak, .int .i64 an, .int .i64 as', .string aq, .int .i64 am] := ((Blk.new _ _ _).alloc _).alloc _
 have i0 : Blk (((w.alloc (.cells #[.int .i64 ak, .int .i64 an, .int .i64 as', .string aq, .int .i64 am] 25)).alloc (.cells #[.int .i64 bk, .int .i64 bn, .int .i64 bs', .string bq, .int .i64 bm] 25)).alloc (.cells #[.int .i64 0, .int .i64 0, .int .i64 0, .string ⟨#[]⟩, .int .i64 0] 25)) (w.heap.size + 1) 25 #[.int .i64 bk, .int .i64 bn, .int .i64 bs', .string bq, .int .i64 bm] := (Blk.new' _ _ _ (by simp)).alloc _
 have r0 : Blk (((w.alloc (.cells #[.int .i64 ak, .int .i64 an, .int .i64 as', .string aq, .int .i64 am] 25)).alloc (.cells #[.int .i64 bk, .int .i64 bn, .int .i64 bs', .string bq, .int .i64 bm] 25)).alloc (.cells #[.int .i64 0, .int .i64 0, .int .i64 0, .string ⟨#[]⟩, .int .i64 0] 25)) (w.heap.size + 1 + 1) 25 #[.int .i64 0, .int .i64 0, .int .i64 0, .string ⟨#[]⟩, .int .i64 0] := Blk.new' _ _ _ (by simp)
 have R0 := Lib.hid r0
 clear r0
 have J0 := Lib.hid j0
 have I0 := Lib.hid i0
 go_enter Tryz.func19, Tryz.ntmps19
 obtain ⟨hlu, hllu, qu0, qu1, qu2, qu3, qu4, zu0, zu1, zu2, zu3, zu4⟩ := bf5 j0; (try simp at qu0 qu1 qu2 qu3 qu4); have Hj0 := Lib.hid j0; clear j0
 obtain ⟨hlv, hllv, qv0, qv1, qv2, qv3, qv4, zv0, zv1, zv2, zv3, zv4⟩ := bf5 i0; (try simp at qv0 qv1 qv2 qv3 qv4); have Hi0 := Lib.hid i0; clear i0
 go_wp2_with fail
 refine (KC.out _ (by (repeat' first | (with_reducible first | exact .refl _ _ | assumption | apply balloc | apply Below.drew | apply bset | refine bstep ?_ ‹_› | refine bturn ?_ ‹_› ?_) | go_size))).mono ?_
 rintro e w1 ⟨rfl, hb1⟩
 have hb01 : Below w.heap.size w w1 := by (repeat' first | (with_reducible first | exact .refl _ _ | assumption | apply balloc | apply Below.drew | apply bset | refine bstep ?_ ‹_› | refine bturn ?_ ‹_› ?_) | go_size)
 have j1 := J0.out.step hb1
 have J1 := Lib.hid j1
 have i1 := I0.out.step hb1
 have I1 := Lib.hid i1
 have r1 := R0.out.step hb1
 have R1 := Lib.hid r1
 clear qu0 zu0 qu1 zu1 qu2 zu2 qu3 zu3 qu4 zu4 hlu hllu
 clear qv0 zv0 qv1 zv1 qv2 zv2 qv3 zv3 qv4 zv4 hlv hllv
 clear Hj0 Hi0 J0 I0 hb1
 clear R0
 obtain ⟨hlu, hllu, qu0, qu1, qu2, qu3, qu4, zu0, zu1, zu2, zu3, zu4⟩ := bf5 j1; (try simp at qu0 qu1 qu2 qu3 qu4); have Hj1 := Lib.hid j1; clear j1
 obtain ⟨hlv, hllv, qv0, qv1, qv2, qv3, qv4, zv0, zv1, zv2, zv3, zv4⟩ := bf5 i1; (try simp at qv0 qv1 qv2 qv3 qv4); have Hi1 := Lib.hid i1; clear i1
 by_cases h0 : er = 0
 · subst h0
   by_cases h1 : ak = bk
   · by_cases h2 : ak = 0
     · obtain ⟨rfl, rfl, rfl, rfl, rfl⟩ := HG.out.2 (by omega)
       have g1 : (ak != bk) = false := by simpa using h1
       have g2 : (ak == 0) = true := by simpa using h2
       clear h1 h2
       obtain ⟨n0, n1, n2, n3, n4, hnl⟩ := HN.out.step hb01
       have hnll := lts hnl
       have r9 := R1.out
       go_wp2_with (refine wpList_store_blk r9 rfl _ _ _ (by rfl) _ (by rfl) (by rfl) (by repeat first | with_reducible first | exact r9 | apply Blk.alloc | apply Blk.drew | refine Blk.far ?_ (by simp <;> omega) _ | refine Blk.turn ?_ ‹_› (by omega)) (by rfl) (by kernel_rfl) (by simp [Value.oneCell']) ?_; intro wt r9n ht)
       refine ret_blk rfl r9n rfl Tryz.underlying25 rfl (by kernel_rfl) rfl ?_
       exact ⟨rfl, bturn hb01 ht (by omega)⟩
     · by_cases h3 : ak = 3
       · obtain ⟨rfl, rfl, rfl, rfl, rfl⟩ := HG.out.2 (by omega)
         have g1 : (ak != bk) = false := by simpa using h1
         have g2 : (ak == 0) = false := by simpa using h2
         have g3 : (ak == 3) = true := by simpa using h3
         clear h1 h2 h3
         obtain ⟨n0, n1, n2, n3, n4, hnl⟩ := HN.out.step hb01
         have hnll := lts hnl
         have r9 := R1.out
         go_wp2_with (refine wpList_store_blk r9 rfl _ _ _ (by rfl) _ (by rfl) (by rfl) (by repeat first | with_reducible first | exact r9 | apply Blk.alloc | apply Blk.drew | refine Blk.far ?_ (by simp <;> omega) _ | refine Blk.turn ?_ ‹_› (by omega)) (by rfl) (by kernel_rfl) (by simp [Value.oneCell']) ?_; intro wt r9n ht)
         refine ret_blk rfl r9n rfl Tryz.underlying25 rfl (by kernel_rfl) rfl ?_
         exact ⟨rfl, bturn hb01 ht (by omega)⟩
       · obtain ⟨rfl, rfl, rfl, rfl, rfl⟩ := HG.out.1 ⟨rfl, h1, h2, h3⟩
         have g1 : (ak != bk) = false := by simpa using h1
         have g2 : (ak == 0) = false := by simpa using h2
         have g3 : (ak == 3) = false := by simpa using h3
         clear h1 h2 h3
         go_wp2_with fail
         refine (KT.out _ hb01).mono ?_
         rintro e w3 ⟨rfl, hb3⟩
         have hb03 := bstep hb01 hb3
         have r9 := R1.out.step hb3
         go_wp2_with (refine wpList_store_blk r9 rfl _ _ _ (by rfl) _ (by rfl) (by rfl) (by repeat first | with_reducible first | exact r9 | apply Blk.alloc | apply Blk.drew | refine Blk.far ?_ (by simp <;> omega) _ | refine Blk.turn ?_ ‹_› (by omega)) (by rfl) (by kernel_rfl) (by simp [Value.oneCell']) ?_; intro wt r9n ht)
         refine ret_blk rfl r9n rfl Tryz.underlying25 rfl (by kernel_rfl) rfl ?_
         exact ⟨rfl, bturn hb03 ht (by omega)⟩
   · obtain ⟨rfl, rfl, rfl, rfl, rfl⟩ := HG.out.2 (by omega)
     have g1 : (ak != bk) = true := by simpa using h1
     clear h1
     obtain ⟨n0, n1, n2, n3, n4, hnl⟩ := HN.out.step hb01
     have hnll := lts hnl
     have r9 := R1.out
     go_wp2_with (refine wpList_store_blk r9 rfl _ _ _ (by rfl) _ (by rfl) (by rfl) (by repeat first | with_reducible first | exact r9 | apply Blk.alloc | apply Blk.drew | refine Blk.far ?_ (by simp <;> omega) _ | refine Blk.turn ?_ ‹_› (by omega)) (by rfl) (by kernel_rfl) (by simp [Value.oneCell']) ?_; intro wt r9n ht)
     refine ret_blk rfl r9n rfl Tryz.underlying25 rfl (by kernel_rfl) rfl ?_
     exact ⟨rfl, bturn hb01 ht (by omega)⟩
 · obtain ⟨rfl, rfl, rfl, rfl, rfl⟩ := HG.out.2 (by omega)
   have g1 : (er != 0) = true := by simpa using h0
   clear h0
   obtain ⟨n0, n1, n2, n3, n4, hnl⟩ := HN.out.step hb01
   have hnll := lts hnl
   have r9 := R1.out
   go_wp2_with (refine wpList_store_blk r9 rfl _ _ _ (by rfl) _ (by rfl) (by rfl) (by repeat first | with_reducible first | exact r9 | apply Blk.alloc | apply Blk.drew | refine Blk.far ?_ (by simp <;> omega) _ | refine Blk.turn ?_ ‹_› (by omega)) (by rfl) (by kernel_rfl) (by simp [Value.oneCell']) ?_; intro wt r9n ht)
   refine ret_blk rfl r9n rfl Tryz.underlying25 rfl (by kernel_rfl) rfl ?_
   exact ⟨rfl, bturn hb01 ht (by omega)⟩
theorem less_vl (a b : Vl) (ha : VOk a) (hb : VOk b) (m : Int) (w : World) (hw : OKW m w) (hn : NU w) :
   Calls Tryz.prog 19 #[.agg (cellsV a), .agg (cellsV b)] w fun e w' => e = .returned (.agg (cellsV (lessC a b))) ∧ Below w.heap.size w w' := by
 have z0 : ∀ {d : Vl}, d = zeroV → d.k = 0 ∧ d.n = 0 ∧ d.s = 0 ∧ bs d.t = ⟨#[]⟩ ∧ d.m = 0 := fun h => by rw [h]; exact ⟨rfl, rfl, rfl, rfl, rfl⟩
 have hE : ((if (sd a && sd b) = true then 0 else 2 : Int) = 0) ↔ (sd a && sd b) = true := by by_cases h : (sd a && sd b) = true <;> simp [h]
 refine le_walk _ _ _ _ _ _ _ _ _ _ (lessC a b).k (lessC a b).n (lessC a b).s (lessC a b).m _ _ _ _ (bs (lessC a b).t) _ _ _ _ rfl w (Lib.hid hn) (Lib.hid ⟨fun h => ?_, fun h => z0 ?_⟩) (Lib.hid fun W h => vcomp_vl a b ha hb m W (hw.step h)) (Lib.hid fun W _ => truth_vl _ W)
 · have h1 := hE.1 h.1
   have e : lessC a b = truV (decide (ordC a b < 0)) := by unfold lessC; rw [if_pos ⟨h1, h.2⟩]
   rw [e, if_pos h1]
   exact ⟨rfl, rfl, rfl, rfl, rfl⟩
 · unfold lessC
   rw [if_neg fun g => h ⟨hE.2 g.1, g.2⟩]
end Go.Proofs.YtapilekangmcoaaGreatDoor
