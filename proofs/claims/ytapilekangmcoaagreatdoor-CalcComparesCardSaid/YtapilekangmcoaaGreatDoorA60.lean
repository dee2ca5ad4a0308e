/- The walks of the reference's value.Compare, calc.Equal and calc.Less. -/
import Derived.Test.YtapilekangmcoaaGreatDoorA53
import Derived.Test.YtapilekangmcoaaGreatDoorA72
set_option linter.unusedVariables false
set_option linter.unusedSimpArgs false
set_option maxHeartbeats 8000000
set_option maxRecDepth 100000
namespace Go.Proofs.YtapilekangmcoaaGreatDoor
open Go.Proofs.YtapilekangmcoaaGreatDoor.Dq
open Go.RowKit Go.Shelf
theorem r4c_walk (ak an as' am bk bn bs' bm : Int) (aq bq : ByteArray) (sa sb : Bool) (x y r er : Int) (w : World)
   (HG : Hid ((sa = false → r = 0 ∧ er = 2) ∧ (sb = false → r = 0 ∧ er = 2) ∧ (sa = true → sb = true → (¬ ak = bk → r = (if ak < bk then -1 else 1) ∧ er = 0) ∧ (ak = bk → (ak = 1 → r = x ∧ er = y) ∧ (¬ ak = 1 → er = 0 ∧ r = (if (Op.bytesLess aq.toList bq.toList || decide (am < bm)) = true then -1 else if (Op.bytesLess bq.toList aq.toList || decide (bm < am)) = true then 1 else 0))))))
   (SA : Hid (∀ W, Below w.heap.size w W → Calls Tryz.prog 22 #[.agg #[.int .i64 ak, .int .i64 an, .int .i64 as', .string aq, .int .i64 am]] W fun e w' => e = .returned (.bool sa) ∧ Below W.heap.size W w'))
   (SB : Hid (∀ W, Below w.heap.size w W → Calls Tryz.prog 22 #[.agg #[.int .i64 bk, .int .i64 bn, .int .i64 bs', .string bq, .int .i64 bm]] W fun e w' => e = .returned (.bool sb) ∧ Below W.heap.size W w'))
   (KD : Hid (∀ W, Below w.heap.size w W → Calls Tryz.prog 69 #[.agg #[.int .i64 an, .int .i64 as'], .agg #[.int .i64 bn, .int .i64 bs']] W fun e w' => e = .returned (.tuple #[.int .i64 x, .int .i64 y]) ∧ Below W.heap.size W w')) :
   Calls Tryz.prog 42 #[.agg #[.int .i64 ak, .int .i64 an, .int .i64 as', .string aq, .int .i64 am], .agg #[.int .i64 bk, .int .i64 bn, .int .i64 bs', .string bq, .int .i64 bm]] w fun e w' => e = .returned (.tuple #[.int .i64 r, .int .i64 er]) ∧ Below w.heap.size w w' := by
 have j0 : Blk ((w.alloc (.cells #[.int .i64 ak, .int .i64 an, .int .i64 as', .string aq, .int .i64 am] 25)).alloc (.cells #[.int .i64 bk, .int .i64 bn, .int .i64 bs', .string bq, .int .i64 bm] 25)) w.heap.size 25 #[.int .i64 ak, .int .i64 an, .int .i64 as', .string aq, .int .i64 am] := (Blk.new _ _ _).alloc _
 have i0 : Blk ((w.alloc (.cells #[.int .i64 ak, .int .i64 an, .int .i64 as', .string aq, .int .i64 am] 25)).alloc (.cells #[.int .i64 bk, .int .i64 bn, .int .i64 bs', .string bq, .int .i64 bm] 25)) (w.heap.size + 1) 25 #[.int .i64 bk, .int .i64 bn, .int .i64 bs', .string bq, .int .i64 bm] := Blk.new' _ _ _ (by simp)
 have J0 := Lib.hid j0
 have I0 := Lib.hid i0
 go_enter Tryz.func42, Tryz.ntmps42
 obtain ⟨hlu, hllu, qu0, qu1, qu2, qu3, qu4, zu0, zu1, zu2, zu3, zu4⟩ := bf5 j0; (try simp at qu0 qu1 qu2 qu3 qu4); have Hj0 := Lib.hid j0; clear j0
 obtain ⟨hlv, hllv, qv0, qv1, qv2, qv3, qv4, zv0, zv1, zv2, zv3, zv4⟩ := bf5 i0; (try simp at qv0 qv1 qv2 qv3 qv4); have Hi0 := Lib.hid i0; clear i0
 go_wp2_with fail
 refine (SA.out _ (by (repeat' first | (with_reducible first | exact .refl _ _ | assumption | apply balloc | apply Below.drew | apply bset | refine bstep ?_ ‹_› | refine bturn ?_ ‹_› ?_) | go_size))).mono ?_
 rintro e w1 ⟨rfl, hb1⟩
 have hb01 : Below w.heap.size w w1 := by (repeat' first | (with_reducible first | exact .refl _ _ | assumption | apply balloc | apply Below.drew | apply bset | refine bstep ?_ ‹_› | refine bturn ?_ ‹_› ?_) | go_size)
 have j1 := J0.out.step hb1
 have J1 := Lib.hid j1
 have i1 := I0.out.step hb1
 have I1 := Lib.hid i1
 clear qu0 zu0 qu1 zu1 qu2 zu2 qu3 zu3 qu4 zu4 hlu hllu qv0 zv0 qv1 zv1 qv2 zv2 qv3 zv3 qv4 zv4 hlv hllv Hj0 Hi0 J0 I0 hb1
 obtain ⟨hlu, hllu, qu0, qu1, qu2, qu3, qu4, zu0, zu1, zu2, zu3, zu4⟩ := bf5 j1; (try simp at qu0 qu1 qu2 qu3 qu4); have Hj1 := Lib.hid j1; clear j1
 obtain ⟨hlv, hllv, qv0, qv1, qv2, qv3, qv4, zv0, zv1, zv2, zv3, zv4⟩ := bf5 i1; (try simp at qv0 qv1 qv2 qv3 qv4); have Hi1 := Lib.hid i1; clear i1
 cases sa with
 | false =>
   obtain ⟨rfl, rfl⟩ := HG.out.1 (by simp)
   go_wp2_with fail
   go_returns
   exact ⟨rfl, hb01⟩
 | true =>
   go_wp2_with fail
   refine (SB.out _ hb01).mono ?_
   rintro e w2 ⟨rfl, hb2⟩
   have hb02 : Below w.heap.size w w2 := bstep hb01 hb2
   have j2 := J1.out.step hb2
   have J2 := Lib.hid j2
   have i2 := I1.out.step hb2
   have I2 := Lib.hid i2
   clear qu0 zu0 qu1 zu1 qu2 zu2 qu3 zu3 qu4 zu4 hlu hllu qv0 zv0 qv1 zv1 qv2 zv2 qv3 zv3 qv4 zv4 hlv hllv Hj1 Hi1 J1 I1 hb2
   obtain ⟨hlu, hllu, qu0, qu1, qu2, qu3, qu4, zu0, zu1, zu2, zu3, zu4⟩ := bf5 j2; (try simp at qu0 qu1 qu2 qu3 qu4); have Hj2 := Lib.hid j2; clear j2
   obtain ⟨hlv, hllv, qv0, qv1, qv2, qv3, qv4, zv0, zv1, zv2, zv3, zv4⟩ := bf5 i2; (try simp at qv0 qv1 qv2 qv3 qv4); have Hi2 := Lib.hid i2; clear i2
   cases sb with
   | false =>
     obtain ⟨rfl, rfl⟩ := HG.out.2.1 (by simp)
     go_wp2_with fail
     go_returns
     exact ⟨rfl, hb02⟩
   | true =>
     obtain ⟨G1, G2⟩ := HG.out.2.2 (by simp) (by simp)
     clear HG SA SB
     by_cases h1 : ak = bk
     · obtain ⟨G3, G4⟩ := G2 h1
       have g1 : (ak != bk) = false := by simpa using h1
       clear G1 G2
       by_cases h2 : ak = 1
       · obtain ⟨rfl, rfl⟩ := G3 h2
         have g2 : (ak == 1) = true := by simpa using h2
         clear h1 h2 G4
         go_wp2_with fail
         refine (KD.out _ hb02).mono ?_
         rintro e w3 ⟨rfl, hb3⟩
         go_wp2_with fail
         go_returns
         exact ⟨rfl, bstep hb02 hb3⟩
       · obtain ⟨rfl, G5⟩ := G4 h2
         have g2 : (ak == 1) = false := by simpa using h2
         clear h1 h2 G3 KD
         obtain ⟨p1, e1⟩ : ∃ p, Op.bytesLess aq.toList bq.toList = p := ⟨_, rfl⟩
         obtain ⟨p2, e2⟩ : ∃ p, decide (am < bm) = p := ⟨_, rfl⟩
         obtain ⟨p3, e3⟩ : ∃ p, Op.bytesLess bq.toList aq.toList = p := ⟨_, rfl⟩
         obtain ⟨p4, e4⟩ : ∃ p, decide (bm < am) = p := ⟨_, rfl⟩
         rw [e1, e2, e3, e4] at G5
         clear G4
         have HG5 := Lib.hid G5
         have HE1 := Lib.hid e1
         have HE3 := Lib.hid e3
         clear G5 e3
         cases p1 with
         | true =>
           obtain rfl : r = -1 := by rw [HG5.out]; rfl
           go_wp2_with fail
           go_returns
           exact ⟨rfl, hb02⟩
         | false =>
           cases p2 with
           | true =>
             obtain rfl : r = -1 := by rw [HG5.out]; rfl
             go_wp2_with fail
             go_returns
             exact ⟨rfl, hb02⟩
           | false =>
             have n1 := HE1.out
             rw [bl_eq, decide_eq_false_iff_not] at n1
             by_cases h5 : aq.toList = bq.toList
             · obtain rfl : p3 = false := by rw [← HE3.out, bl_eq, h5]; simp [List.lt_irrefl]
               have f5 : (aq.toList == bq.toList) = true := by rw [h5]; simp
               clear h5 n1 HE3 HE1
               cases p4 with
               | true =>
                 obtain rfl : r = 1 := by rw [HG5.out]; rfl
                 go_wp2_with fail
                 go_returns
                 exact ⟨rfl, hb02⟩
               | false =>
                 obtain rfl : r = 0 := by rw [HG5.out]; rfl
                 go_wp2_with fail
                 go_returns
                 exact ⟨rfl, hb02⟩
             · obtain rfl : p3 = true := by
                 rw [← HE3.out, bl_eq]
                 exact decide_eq_true (Classical.byContradiction fun n3 => h5 (List.le_antisymm (List.not_lt.1 n3) (List.not_lt.1 n1)))
               have f5 : (aq.toList == bq.toList) = false := by simpa using h5
               clear h5 n1 HE3 HE1
               obtain rfl : r = 1 := by rw [HG5.out]; simp
               go_wp2_with fail
               go_returns
               exact ⟨rfl, hb02⟩
     · obtain ⟨G6, rfl⟩ := G1 h1
       have g1 : (ak != bk) = true := by simpa using h1
       clear h1 G1 G2 KD
       by_cases h2 : ak < bk
       · obtain rfl : r = -1 := by rw [G6, if_pos h2]
         clear G6
         go_wp2_with fail
         go_returns
         exact ⟨rfl, hb02⟩
       · obtain rfl : r = 1 := by rw [G6, if_neg h2]
         have g2 : decide (ak < bk) = false := decide_eq_false h2
         clear h2 G6
         go_wp2_with fail
         go_returns
         exact ⟨rfl, hb02⟩
/-- A number that may be a value is sound. -/
theorem sd_dec {a : Vl} (h : sd a = true) (k : a.k = 1) : soundS a.n a.s = true := by
 have s := (sd_iff a).1 h
 unfold vSound at s
 rw [k] at s
 rcases s with s | s | s | s | s
 case inr.inl => exact s.2.1
 all_goals exact absurd s.1 (by decide)
/-- Of two values of one kind either the texts or the numbers are alike. -/
theorem ord_way {a b : Vl} (h1 : sd a = true) (h2 : sd b = true) (h : a.k = b.k) (g : ¬ a.k = 1) :
   (if cmpT a.t b.t = 0 then cmpS a.m b.m else cmpT a.t b.t) = if (decide (a.t < b.t) || decide (a.m < b.m)) = true then -1 else if (decide (b.t < a.t) || decide (b.m < a.m)) = true then 1 else 0 := by
 have s1 := (sd_iff a).1 h1
 have s2 := (sd_iff b).1 h2
 have hw : (a.m = 0 ∧ b.m = 0) ∨ (a.t = [] ∧ b.t = []) := by
   unfold vSound at s1 s2
   rw [← h] at s2
   rcases s1 with s | s | s | s | s
   · rcases s2 with r | r | r | r | r
     · exact .inr ⟨by simp_all, by simp_all⟩
     all_goals (exfalso; have := s.1; have := r.1; omega)
   · exact absurd s.1 g
   · rcases s2 with r | r | r | r | r
     case inr.inr.inl => exact .inl ⟨by simp_all, by simp_all⟩
     all_goals (exfalso; have := s.1; have := r.1; omega)
   · rcases s2 with r | r | r | r | r
     case inr.inr.inr.inl => exact .inr ⟨by simp_all, by simp_all⟩
     all_goals (exfalso; have := s.1; have := r.1; omega)
   · rcases s2 with r | r | r | r | r
     case inr.inr.inr.inr => exact .inr ⟨by simp_all, by simp_all⟩
     all_goals (exfalso; have := s.1; have := r.1; omega)
 rcases hw with ⟨e1, e2⟩ | ⟨e1, e2⟩
 · rw [e1, e2]
   unfold cmpT cmpS
   by_cases p : a.t < b.t
   · simp [p]
   · by_cases q : b.t < a.t
     · simp [p, q]
     · simp [p, q]
 · rw [e1, e2]
   have c : cmpT ([] : Bs) [] = 0 := cmpT_self _
   rw [if_pos c]
   unfold cmpS
   by_cases p : a.m < b.m
   · simp [p]
   · by_cases q : b.m < a.m
     · simp [p, q]
     · simp [p, q]
theorem r4c_vl (a b : Vl) (ha : VOk a) (hb : VOk b) (w : World) :
   Calls Tryz.prog 42 #[.agg (cellsV a), .agg (cellsV b)] w fun e w' => e = .returned (.tuple #[.int .i64 (if (sd a && sd b) = true then ordC a b else 0), .int .i64 (if (sd a && sd b) = true then 0 else 2)]) ∧ Below w.heap.size w w' := by
 refine r4c_walk _ _ _ _ _ _ _ _ _ _ (sd a) (sd b) _ _ _ _ w (Lib.hid ⟨fun h => ?_, fun h => ?_, fun h1 h2 => ⟨fun h => ?_, fun h => ⟨fun g => ?_, fun g => ?_⟩⟩⟩) (Lib.hid fun W _ => r4_sd a ha W) (Lib.hid fun W _ => r4_sd b hb W) (Lib.hid fun W _ => rcmp_any a.n a.s b.n b.s ha.n ha.s hb.n hb.s W)
 · rw [h]; simp
 · rw [h]; simp
 · rw [h1, h2]
   refine ⟨?_, by simp⟩
   rw [if_pos (by simp)]
   unfold ordC cmpS
   rw [if_neg h]
   by_cases hl : a.k < b.k
   · rw [if_pos hl, if_pos hl]
   · rw [if_neg hl, if_neg hl, if_pos (by omega)]
 · rw [h1, h2, if_pos (by simp), if_pos (by simp)]
   have s1 := sd_dec h1 g
   have s2 := sd_dec h2 (h.symm.trans g)
   unfold ordC cmpD
   rw [if_pos h, if_pos g, s1, s2]
   exact ⟨rfl, rfl⟩
 · rw [h1, h2, if_pos (by simp), if_pos (by simp)]
   refine ⟨rfl, ?_⟩
   unfold ordC
   rw [if_pos h, if_neg g, bs_toList, bs_toList, bl_eq, bl_eq]
   exact ord_way h1 h2 h g
theorem r11e_walk (ak an as' am bk bn bs' bm : Int) (aq bq : ByteArray) (dk dn ds dm : Int) (dq : ByteArray) (r er : Int) (sa sb : Bool) (w : World)
   (HG : Hid ((sa = false → (dk = 0 ∧ dn = 0 ∧ ds = 0 ∧ dq = ⟨#[]⟩ ∧ dm = 0)) ∧ (sb = false → (dk = 0 ∧ dn = 0 ∧ ds = 0 ∧ dq = ⟨#[]⟩ ∧ dm = 0)) ∧ (sa = true → sb = true → (ak = 0 → bk = 0 → (dk = 3 ∧ dn = 0 ∧ ds = 0 ∧ dq = ⟨#[]⟩ ∧ dm = 1)) ∧ (ak = 0 → ¬ bk = 0 → (dk = 3 ∧ dn = 0 ∧ ds = 0 ∧ dq = ⟨#[]⟩ ∧ dm = 0)) ∧ (¬ ak = 0 → bk = 0 → (dk = 3 ∧ dn = 0 ∧ ds = 0 ∧ dq = ⟨#[]⟩ ∧ dm = 0)) ∧ (¬ ak = 0 → ¬ bk = 0 → ¬ ak = bk → (dk = 0 ∧ dn = 0 ∧ ds = 0 ∧ dq = ⟨#[]⟩ ∧ dm = 0)) ∧ (¬ ak = 0 → ¬ bk = 0 → ak = bk → (r = 0 → (dk = 3 ∧ dn = 0 ∧ ds = 0 ∧ dq = ⟨#[]⟩ ∧ dm = 1)) ∧ (¬ r = 0 → (dk = 3 ∧ dn = 0 ∧ ds = 0 ∧ dq = ⟨#[]⟩ ∧ dm = 0))))))
   (SA : Hid (∀ W, Below w.heap.size w W → Calls Tryz.prog 22 #[.agg #[.int .i64 ak, .int .i64 an, .int .i64 as', .string aq, .int .i64 am]] W fun e w' => e = .returned (.bool sa) ∧ Below W.heap.size W w'))
   (SB : Hid (∀ W, Below w.heap.size w W → Calls Tryz.prog 22 #[.agg #[.int .i64 bk, .int .i64 bn, .int .i64 bs', .string bq, .int .i64 bm]] W fun e w' => e = .returned (.bool sb) ∧ Below W.heap.size W w'))
   (KC : Hid (∀ W, Below w.heap.size w W → Calls Tryz.prog 42 #[.agg #[.int .i64 ak, .int .i64 an, .int .i64 as', .string aq, .int .i64 am], .agg #[.int .i64 bk, .int .i64 bn, .int .i64 bs', .string bq, .int .i64 bm]] W fun e w' => e = .returned (.tuple #[.int .i64 r, .int .i64 er]) ∧ Below W.heap.size W w'))
   (KTT : Hid (∀ W, Below w.heap.size w W → Calls Tryz.prog 21 #[.bool true] W fun e w' => e = .returned (.agg #[.int .i64 3, .int .i64 0, .int .i64 0, .string ⟨#[]⟩, .int .i64 1]) ∧ Below W.heap.size W w'))
   (KTF : Hid (∀ W, Below w.heap.size w W → Calls Tryz.prog 21 #[.bool false] W fun e w' => e = .returned (.agg #[.int .i64 3, .int .i64 0, .int .i64 0, .string ⟨#[]⟩, .int .i64 0]) ∧ Below W.heap.size W w')) :
   Calls Tryz.prog 18 #[.agg #[.int .i64 ak, .int .i64 an, .int .i64 as', .string aq, .int .i64 am], .agg #[.int .i64 bk, .int .i64 bn, .int .i64 bs', .string bq, .int .i64 bm]] w fun e w' => e = .returned (.agg #[.int .i64 dk, .int .i64 dn, .int .i64 ds, .string dq, .int .i64 dm]) ∧ Below w.heap.size w w' := by
 have j0 : Blk (((w.alloc (.cells #[.int .i64 ak, .int .i64 an, .int .i64 as', .string aq, .int .i64 am] 25)).alloc (.cells #[.int .i64 bk, .int .i64 bn, .int .i64 bs', .string bq, .int .i64 bm] 25)).alloc (.cells #[.int .i64 0, .int .i64 0, .int .i64 0, .string ⟨#[]⟩, .int .i64 0] 25)) w.heap.size 25 #[.int .i64 ak, .int .i64 an, .int .i64 as', .string aq, .int .i64 am] := ((Blk.new _ _ _).alloc _).alloc _
 have i0 : Blk (((w.alloc (.cells #[.int .i64 ak, .int .i64 an, .int .i64 as', .string aq, .int .i64 am] 25)).alloc (.cells #[.int .i64 bk, .int .i64 bn, .int .i64 bs', .string bq, .int .i64 bm] 25)).alloc (.cells #[.int .i64 0, .int .i64 0, .int .i64 0, .string ⟨#[]⟩, .int .i64 0] 25)) (w.heap.size + 1) 25 #[.int .i64 bk, .int .i64 bn, .int .i64 bs', .string bq, .int .i64 bm] := (Blk.new' _ _ _ (by simp)).alloc _
 have J0 := Lib.hid j0
 have I0 := Lib.hid i0
 have r0 : Blk (((w.alloc (.cells #[.int .i64 ak, .int .i64 an, .int .i64 as', .string aq, .int .i64 am] 25)).alloc (.cells #[.int .i64 bk, .int .i64 bn, .int .i64 bs', .string bq, .int .i64 bm] 25)).alloc (.cells #[.int .i64 0, .int .i64 0, .int .i64 0, .string ⟨#[]⟩, .int .i64 0] 25)) (w.heap.size + 1 + 1) 25 #[.int .i64 0, .int .i64 0, .int .i64 0, .string ⟨#[]⟩, .int .i64 0] := Blk.new' _ _ _ (by simp)
 have R0 := Lib.hid r0
 clear r0
 go_enter Tryz.func18, Tryz.ntmps18
 obtain ⟨hlu, hllu, qu0, qu1, qu2, qu3, qu4, zu0, zu1, zu2, zu3, zu4⟩ := bf5 j0; (try simp at qu0 qu1 qu2 qu3 qu4); have Hj0 := Lib.hid j0; clear j0
 obtain ⟨hlv, hllv, qv0, qv1, qv2, qv3, qv4, zv0, zv1, zv2, zv3, zv4⟩ := bf5 i0; (try simp at qv0 qv1 qv2 qv3 qv4); have Hi0 := Lib.hid i0; clear i0
 go_wp2_with fail
 refine (SA.out _ (by (repeat' first | (with_reducible first | exact .refl _ _ | assumption | apply balloc | apply Below.drew | apply bset | refine bstep ?_ ‹_› | refine bturn ?_ ‹_› ?_) | go_size))).mono ?_
 rintro e w1 ⟨rfl, hb1⟩
 have hb01 : Below w.heap.size w w1 := by (repeat' first | (with_reducible first | exact .refl _ _ | assumption | apply balloc | apply Below.drew | apply bset | refine bstep ?_ ‹_› | refine bturn ?_ ‹_› ?_) | go_size)
 have j1 := J0.out.step hb1
 have J1 := Lib.hid j1
 have i1 := I0.out.step hb1
 have I1 := Lib.hid i1
 have R1 := Lib.hid (R0.out.step hb1)
 clear qu0 zu0 qu1 zu1 qu2 zu2 qu3 zu3 qu4 zu4 hlu hllu qv0 zv0 qv1 zv1 qv2 zv2 qv3 zv3 qv4 zv4 hlv hllv Hj0 Hi0 J0 I0 R0 hb1
 obtain ⟨hlu, hllu, qu0, qu1, qu2, qu3, qu4, zu0, zu1, zu2, zu3, zu4⟩ := bf5 j1; (try simp at qu0 qu1 qu2 qu3 qu4); have Hj1 := Lib.hid j1; clear j1
 obtain ⟨hlv, hllv, qv0, qv1, qv2, qv3, qv4, zv0, zv1, zv2, zv3, zv4⟩ := bf5 i1; (try simp at qv0 qv1 qv2 qv3 qv4); have Hi1 := Lib.hid i1; clear i1
 cases sa with
 | false =>
   obtain ⟨rfl, rfl, rfl, rfl, rfl⟩ := HG.out.1 (by simp)
   have r9 := R1.out
   go_wp2_with (refine wpList_store_blk r9 rfl _ _ _ (by rfl) _ (by rfl) (by rfl) (by repeat first | with_reducible first | exact r9 | apply Blk.alloc | apply Blk.drew | refine Blk.far ?_ (by simp <;> omega) _ | refine Blk.turn ?_ ‹_› (by omega)) (by rfl) (by kernel_rfl) (by simp [Value.oneCell']) ?_; intro wt r9n ht)
   refine ret_blk rfl r9n rfl Tryz.underlying25 rfl (by kernel_rfl) rfl ?_
   exact ⟨rfl, bturn hb01 ht (by omega)⟩
 | true =>
   go_wp2_with fail
   refine (SB.out _ hb01).mono ?_
   rintro e w2 ⟨rfl, hb2⟩
   have hb02 : Below w.heap.size w w2 := bstep hb01 hb2
   have j2 := J1.out.step hb2
   have J2 := Lib.hid j2
   have i2 := I1.out.step hb2
   have I2 := Lib.hid i2
   have R2 := Lib.hid (R1.out.step hb2)
   clear qu0 zu0 qu1 zu1 qu2 zu2 qu3 zu3 qu4 zu4 hlu hllu qv0 zv0 qv1 zv1 qv2 zv2 qv3 zv3 qv4 zv4 hlv hllv Hj1 Hi1 J1 I1 R1 hb2
   obtain ⟨hlu, hllu, qu0, qu1, qu2, qu3, qu4, zu0, zu1, zu2, zu3, zu4⟩ := bf5 j2; (try simp at qu0 qu1 qu2 qu3 qu4); have Hj2 := Lib.hid j2; clear j2
   obtain ⟨hlv, hllv, qv0, qv1, qv2, qv3, qv4, zv0, zv1, zv2, zv3, zv4⟩ := bf5 i2; (try simp at qv0 qv1 qv2 qv3 qv4); have Hi2 := Lib.hid i2; clear i2
   cases sb with
   | false =>
     obtain ⟨rfl, rfl, rfl, rfl, rfl⟩ := HG.out.2.1 (by simp)
     have r9 := R2.out
     go_wp2_with (refine wpList_store_blk r9 rfl _ _ _ (by rfl) _ (by rfl) (by rfl) (by repeat first | with_reducible first | exact r9 | apply Blk.alloc | apply Blk.drew | refine Blk.far ?_ (by simp <;> omega) _ | refine Blk.turn ?_ ‹_› (by omega)) (by rfl) (by kernel_rfl) (by simp [Value.oneCell']) ?_; intro wt r9n ht)
     refine ret_blk rfl r9n rfl Tryz.underlying25 rfl (by kernel_rfl) rfl ?_
     exact ⟨rfl, bturn hb02 ht (by omega)⟩
   | true =>
     have HGG := HG.out.2.2 (by simp) (by simp)
     clear HG SA SB
     obtain ⟨G1, G2, G3, G4, G5⟩ := HGG
     by_cases h1 : ak = 0
     · have g1 : (ak == 0) = true := by simpa using h1
       by_cases h2 : bk = 0
       · have g2 : (bk == 0) = true := by simpa using h2
         obtain ⟨rfl, rfl, rfl, rfl, rfl⟩ := G1 h1 h2
         clear h1 h2 G1 G2 G3 G4 G5
         go_wp2_with fail
         refine (KTT.out _ hb02).mono ?_
         rintro e w3 ⟨rfl, hb3⟩
         have hb03 := bstep hb02 hb3
         have r9 := R2.out.step hb3
         go_wp2_with (refine wpList_store_blk r9 rfl _ _ _ (by rfl) _ (by rfl) (by rfl) (by repeat first | with_reducible first | exact r9 | apply Blk.alloc | apply Blk.drew | refine Blk.far ?_ (by simp <;> omega) _ | refine Blk.turn ?_ ‹_› (by omega)) (by rfl) (by kernel_rfl) (by simp [Value.oneCell']) ?_; intro wt r9n ht)
         refine ret_blk rfl r9n rfl Tryz.underlying25 rfl (by kernel_rfl) rfl ?_
         exact ⟨rfl, bturn hb03 ht (by omega)⟩
       · have g2 : (bk == 0) = false := by simpa using h2
         obtain ⟨rfl, rfl, rfl, rfl, rfl⟩ := G2 h1 h2
         clear h1 h2 G1 G2 G3 G4 G5
         go_wp2_with fail
         refine (KTF.out _ hb02).mono ?_
         rintro e w3 ⟨rfl, hb3⟩
         have hb03 := bstep hb02 hb3
         have r9 := R2.out.step hb3
         go_wp2_with (refine wpList_store_blk r9 rfl _ _ _ (by rfl) _ (by rfl) (by rfl) (by repeat first | with_reducible first | exact r9 | apply Blk.alloc | apply Blk.drew | refine Blk.far ?_ (by simp <;> omega) _ | refine Blk.turn ?_ ‹_› (by omega)) (by rfl) (by kernel_rfl) (by simp [Value.oneCell']) ?_; intro wt r9n ht)
         refine ret_blk rfl r9n rfl Tryz.underlying25 rfl (by kernel_rfl) rfl ?_
         exact ⟨rfl, bturn hb03 ht (by omega)⟩
     · have g1 : (ak == 0) = false := by simpa using h1
       by_cases h2 : bk = 0
       · have g2 : (bk == 0) = true := by simpa using h2
         obtain ⟨rfl, rfl, rfl, rfl, rfl⟩ := G3 h1 h2
         clear h1 h2 G1 G2 G3 G4 G5
         go_wp2_with fail
         refine (KTF.out _ hb02).mono ?_
         rintro e w3 ⟨rfl, hb3⟩
         have hb03 := bstep hb02 hb3
         have r9 := R2.out.step hb3
         go_wp2_with (refine wpList_store_blk r9 rfl _ _ _ (by rfl) _ (by rfl) (by rfl) (by repeat first | with_reducible first | exact r9 | apply Blk.alloc | apply Blk.drew | refine Blk.far ?_ (by simp <;> omega) _ | refine Blk.turn ?_ ‹_› (by omega)) (by rfl) (by kernel_rfl) (by simp [Value.oneCell']) ?_; intro wt r9n ht)
         refine ret_blk rfl r9n rfl Tryz.underlying25 rfl (by kernel_rfl) rfl ?_
         exact ⟨rfl, bturn hb03 ht (by omega)⟩
       · have g2 : (bk == 0) = false := by simpa using h2
         by_cases h3 : ak = bk
         · have g3 : (ak != bk) = false := by simpa using h3
           have G6 := G5 h1 h2 h3
           clear h1 h2 h3 G1 G2 G3 G4 G5
           by_cases h4 : r = 0
           · obtain ⟨rfl, rfl, rfl, rfl, rfl⟩ := G6.1 h4
             have g4 : (r == 0) = true := by simpa using h4
             clear h4 G6
             go_wp2_with fail
             refine (KC.out _ hb02).mono ?_
             rintro e w3 ⟨rfl, hb3⟩
             have hb03 := bstep hb02 hb3
             have R3 := Lib.hid (R2.out.step hb3)
             clear qu0 zu0 qu1 zu1 qu2 zu2 qu3 zu3 qu4 zu4 hlu hllu qv0 zv0 qv1 zv1 qv2 zv2 qv3 zv3 qv4 zv4 hlv hllv Hj2 Hi2 J2 I2 R2 hb3
             go_wp2_with fail
             refine (KTT.out _ hb03).mono ?_
             rintro e w4 ⟨rfl, hb4⟩
             have hb04 := bstep hb03 hb4
             have r9 := R3.out.step hb4
             go_wp2_with (refine wpList_store_blk r9 rfl _ _ _ (by rfl) _ (by rfl) (by rfl) (by repeat first | with_reducible first | exact r9 | apply Blk.alloc | apply Blk.drew | refine Blk.far ?_ (by simp <;> omega) _ | refine Blk.turn ?_ ‹_› (by omega)) (by rfl) (by kernel_rfl) (by simp [Value.oneCell']) ?_; intro wt r9n ht)
             refine ret_blk rfl r9n rfl Tryz.underlying25 rfl (by kernel_rfl) rfl ?_
             exact ⟨rfl, bturn hb04 ht (by omega)⟩
           · obtain ⟨rfl, rfl, rfl, rfl, rfl⟩ := G6.2 h4
             have g4 : (r == 0) = false := by simpa using h4
             clear h4 G6
             go_wp2_with fail
             refine (KC.out _ hb02).mono ?_
             rintro e w3 ⟨rfl, hb3⟩
             have hb03 := bstep hb02 hb3
             have R3 := Lib.hid (R2.out.step hb3)
             clear qu0 zu0 qu1 zu1 qu2 zu2 qu3 zu3 qu4 zu4 hlu hllu qv0 zv0 qv1 zv1 qv2 zv2 qv3 zv3 qv4 zv4 hlv hllv Hj2 Hi2 J2 I2 R2 hb3
             go_wp2_with fail
             refine (KTF.out _ hb03).mono ?_
             rintro e w4 ⟨rfl, hb4⟩
             have hb04 := bstep hb03 hb4
             have r9 := R3.out.step hb4
             go_wp2_with (refine wpList_store_blk r9 rfl _ _ _ (by rfl) _ (by rfl) (by rfl) (by repeat first | with_reducible first | exact r9 | apply Blk.alloc | apply Blk.drew | refine Blk.far ?_ (by simp <;> omega) _ | refine Blk.turn ?_ ‹_› (by omega)) (by rfl) (by kernel_rfl) (by simp [Value.oneCell']) ?_; intro wt r9n ht)
             refine ret_blk rfl r9n rfl Tryz.underlying25 rfl (by kernel_rfl) rfl ?_
             exact ⟨rfl, bturn hb04 ht (by omega)⟩
         · have g3 : (ak != bk) = true := by simpa using h3
           obtain ⟨rfl, rfl, rfl, rfl, rfl⟩ := G4 h1 h2 h3
           clear h1 h2 h3 G1 G2 G3 G4 G5
           have r9 := R2.out
           go_wp2_with (refine wpList_store_blk r9 rfl _ _ _ (by rfl) _ (by rfl) (by rfl) (by repeat first | with_reducible first | exact r9 | apply Blk.alloc | apply Blk.drew | refine Blk.far ?_ (by simp <;> omega) _ | refine Blk.turn ?_ ‹_› (by omega)) (by rfl) (by kernel_rfl) (by simp [Value.oneCell']) ?_; intro wt r9n ht)
           refine ret_blk rfl r9n rfl Tryz.underlying25 rfl (by kernel_rfl) rfl ?_
           exact ⟨rfl, bturn hb02 ht (by omega)⟩
theorem r11l_walk (ak an as' am bk bn bs' bm : Int) (aq bq : ByteArray) (dk dn ds dm : Int) (dq : ByteArray) (r er : Int) (sa sb : Bool) (w : World)
   (HG : Hid ((sa = false → (dk = 0 ∧ dn = 0 ∧ ds = 0 ∧ dq = ⟨#[]⟩ ∧ dm = 0)) ∧ (sb = false → (dk = 0 ∧ dn = 0 ∧ ds = 0 ∧ dq = ⟨#[]⟩ ∧ dm = 0)) ∧ (sa = true → sb = true → (¬ (ak = bk ∧ ¬ ak = 0 ∧ ¬ ak = 3) → (dk = 0 ∧ dn = 0 ∧ ds = 0 ∧ dq = ⟨#[]⟩ ∧ dm = 0)) ∧ ((ak = bk ∧ ¬ ak = 0 ∧ ¬ ak = 3) → (r = -1 → (dk = 3 ∧ dn = 0 ∧ ds = 0 ∧ dq = ⟨#[]⟩ ∧ dm = 1)) ∧ (¬ r = -1 → (dk = 3 ∧ dn = 0 ∧ ds = 0 ∧ dq = ⟨#[]⟩ ∧ dm = 0))))))
   (SA : Hid (∀ W, Below w.heap.size w W → Calls Tryz.prog 22 #[.agg #[.int .i64 ak, .int .i64 an, .int .i64 as', .string aq, .int .i64 am]] W fun e w' => e = .returned (.bool sa) ∧ Below W.heap.size W w'))
   (SB : Hid (∀ W, Below w.heap.size w W → Calls Tryz.prog 22 #[.agg #[.int .i64 bk, .int .i64 bn, .int .i64 bs', .string bq, .int .i64 bm]] W fun e w' => e = .returned (.bool sb) ∧ Below W.heap.size W w'))
   (KC : Hid (∀ W, Below w.heap.size w W → Calls Tryz.prog 42 #[.agg #[.int .i64 ak, .int .i64 an, .int .i64 as', .string aq, .int .i64 am], .agg #[.int .i64 bk, .int .i64 bn, .int .i64 bs', .string bq, .int .i64 bm]] W fun e w' => e = .returned (.tuple #[.int .i64 r, .int .i64 er]) ∧ Below W.heap.size W w'))
   (KTT : Hid (∀ W, Below w.heap.size w W → Calls Tryz.prog 21 #[.bool true] W fun e w' => e = .returned (.agg #[.int .i64 3, .int .i64 0, .int .i64 0, .string ⟨#[]⟩, .int .i64 1]) ∧ Below W.heap.size W w'))
   (KTF : Hid (∀ W, Below w.heap.size w W → Calls Tryz.prog 21 #[.bool false] W fun e w' => e = .returned (.agg #[.int .i64 3, .int .i64 0, .int .i64 0, .string ⟨#[]⟩, .int .i64 0]) ∧ Below W.heap.size W w')) :
   Calls Tryz.prog 20 #[.agg #[.int .i64 ak, .int .i64 an, .int .i64 as', .string aq, .int .i64 am], .agg #[.int .i64 bk, .int .i64 bn, .int .i64 bs', .string bq, .int .i64 bm]] w fun e w' => e = .returned (.agg #[.int .i64 dk, .int .i64 dn, .int .i64 ds, .string dq, .int .i64 dm]) ∧ Below w.heap.size w w' := by
 have j0 : Blk (((w.alloc (.cells #[.int .i64 ak, .int .i64 an, .int .i64 as', .string aq, .int .i64 am] 25)).alloc (.cells #[.int .i64 bk, .int .i64 bn, .int .i64 bs', .string bq, .int .i64 bm] 25)).alloc (.cells #[.int .i64 0, .int .i64 0, .int .i64 0, .string ⟨#[]⟩, .int .i64 0] 25)) w.heap.size 25 #[.int .i64 ak, .int .i64 an, .int .i64 as', .string aq, .int .i64 am] := ((Blk.new _ _ _).alloc _).alloc _
 have i0 : Blk (((w.alloc (.cells #[.int .i64 ak, .int .i64 an, .int .i64 as', .string aq, .int .i64 am] 25)).alloc (.cells #[.int .i64 bk, .int .i64 bn, .int .i64 bs', .string bq, .int .i64 bm] 25)).alloc (.cells #[.int .i64 0, .int .i64 0, .int .i64 0, .string ⟨#[]⟩, .int .i64 0] 25)) (w.heap.size + 1) 25 #[.int .i64 bk, .int .i64 bn, .int .i64 bs', .string bq, .int .i64 bm] := (Blk.new' _ _ _ (by simp)).alloc _
 have J0 := Lib.hid j0
 have I0 := Lib.hid i0
 have r0 : Blk (((w.alloc (.cells #[.int .i64 ak, .int .i64 an, .int .i64 as', .string aq, .int .i64 am] 25)).alloc (.cells #[.int .i64 bk, .int .i64 bn, .int .i64 bs', .string bq, .int .i64 bm] 25)).alloc (.cells #[.int .i64 0, .int .i64 0, .int .i64 0, .string ⟨#[]⟩, .int .i64 0] 25)) (w.heap.size + 1 + 1) 25 #[.int .i64 0, .int .i64 0, .int .i64 0, .string ⟨#[]⟩, .int .i64 0] := Blk.new' _ _ _ (by simp)
 have R0 := Lib.hid r0
 clear r0
 go_enter Tryz.func20, Tryz.ntmps20
 obtain ⟨hlu, hllu, qu0, qu1, qu2, qu3, qu4, zu0, zu1, zu2, zu3, zu4⟩ := bf5 j0; (try simp at qu0 qu1 qu2 qu3 qu4); have Hj0 := Lib.hid j0; clear j0
 obtain ⟨hlv, hllv, qv0, qv1, qv2, qv3, qv4, zv0, zv1, zv2, zv3, zv4⟩ := bf5 i0; (try simp at qv0 qv1 qv2 qv3 qv4); have Hi0 := Lib.hid i0; clear i0
 go_wp2_with fail
 refine (SA.out _ (by (repeat' first | (with_reducible first | exact .refl _ _ | assumption | apply balloc | apply Below.drew | apply bset | refine bstep ?_ ‹_› | refine bturn ?_ ‹_› ?_) | go_size))).mono ?_
 rintro e w1 ⟨rfl, hb1⟩
 have hb01 : Below w.heap.size w w1 := by (repeat' first | (with_reducible first | exact .refl _ _ | assumption | apply balloc | apply Below.drew | apply bset | refine bstep ?_ ‹_› | refine bturn ?_ ‹_› ?_) | go_size)
 have j1 := J0.out.step hb1
 have J1 := Lib.hid j1
 have i1 := I0.out.step hb1
 have I1 := Lib.hid i1
 have R1 := Lib.hid (R0.out.step hb1)
 clear qu0 zu0 qu1 zu1 qu2 zu2 qu3 zu3 qu4 zu4 hlu hllu qv0 zv0 qv1 zv1 qv2 zv2 qv3 zv3 qv4 zv4 hlv hllv Hj0 Hi0 J0 I0 R0 hb1
 obtain ⟨hlu, hllu, qu0, qu1, qu2, qu3, qu4, zu0, zu1, zu2, zu3, zu4⟩ := bf5 j1; (try simp at qu0 qu1 qu2 qu3 qu4); have Hj1 := Lib.hid j1; clear j1
 obtain ⟨hlv, hllv, qv0, qv1, qv2, qv3, qv4, zv0, zv1, zv2, zv3, zv4⟩ := bf5 i1; (try simp at qv0 qv1 qv2 qv3 qv4); have Hi1 := Lib.hid i1; clear i1
 cases sa with
 | false =>
   obtain ⟨rfl, rfl, rfl, rfl, rfl⟩ := HG.out.1 (by simp)
   have r9 := R1.out
   go_wp2_with (refine wpList_store_blk r9 rfl _ _ _ (by rfl) _ (by rfl) (by rfl) (by repeat first | with_reducible first | exact r9 | apply Blk.alloc | apply Blk.drew | refine Blk.far ?_ (by simp <;> omega) _ | refine Blk.turn ?_ ‹_› (by omega)) (by rfl) (by kernel_rfl) (by simp [Value.oneCell']) ?_; intro wt r9n ht)
   refine ret_blk rfl r9n rfl Tryz.underlying25 rfl (by kernel_rfl) rfl ?_
   exact ⟨rfl, bturn hb01 ht (by omega)⟩
 | true =>
   go_wp2_with fail
   refine (SB.out _ hb01).mono ?_
   rintro e w2 ⟨rfl, hb2⟩
   have hb02 : Below w.heap.size w w2 := bstep hb01 hb2
   have j2 := J1.out.step hb2
   have J2 := Lib.hid j2
   have i2 := I1.out.step hb2
   have I2 := Lib.hid i2
   have R2 := Lib.hid (R1.out.step hb2)
   clear qu0 zu0 qu1 zu1 qu2 zu2 qu3 zu3 qu4 zu4 hlu hllu qv0 zv0 qv1 zv1 qv2 zv2 qv3 zv3 qv4 zv4 hlv hllv Hj1 Hi1 J1 I1 R1 hb2
   obtain ⟨hlu, hllu, qu0, qu1, qu2, qu3, qu4, zu0, zu1, zu2, zu3, zu4⟩ := bf5 j2; (try simp at qu0 qu1 qu2 qu3 qu4); have Hj2 := Lib.hid j2; clear j2
   obtain ⟨hlv, hllv, qv0, qv1, qv2, qv3, qv4, zv0, zv1, zv2, zv3, zv4⟩ := bf5 i2; (try simp at qv0 qv1 qv2 qv3 qv4); have Hi2 := Lib.hid i2; clear i2
   cases sb with
   | false =>
     obtain ⟨rfl, rfl, rfl, rfl, rfl⟩ := HG.out.2.1 (by simp)
     have r9 := R2.out
     go_wp2_with (refine wpList_store_blk r9 rfl _ _ _ (by rfl) _ (by rfl) (by rfl) (by repeat first | with_reducible first | exact r9 | apply Blk.alloc | apply Blk.drew | refine Blk.far ?_ (by simp <;> omega) _ | refine Blk.turn ?_ ‹_› (by omega)) (by rfl) (by kernel_rfl) (by simp [Value.oneCell']) ?_; intro wt r9n ht)
     refine ret_blk rfl r9n rfl Tryz.underlying25 rfl (by kernel_rfl) rfl ?_
     exact ⟨rfl, bturn hb02 ht (by omega)⟩
   | true =>
     have HGG := HG.out.2.2 (by simp) (by simp)
     clear HG SA SB
     obtain ⟨G1, G2⟩ := HGG
     by_cases h1 : ak = bk
     · have g1 : (ak != bk) = false := by simpa using h1
       by_cases h2 : ak = 0
       · have g2 : (ak == 0) = true := by simpa using h2
         obtain ⟨rfl, rfl, rfl, rfl, rfl⟩ := G1 (fun h => h.2.1 h2)
         clear h1 h2 G1 G2
         have r9 := R2.out
         go_wp2_with (refine wpList_store_blk r9 rfl _ _ _ (by rfl) _ (by rfl) (by rfl) (by repeat first | with_reducible first | exact r9 | apply Blk.alloc | apply Blk.drew | refine Blk.far ?_ (by simp <;> omega) _ | refine Blk.turn ?_ ‹_› (by omega)) (by rfl) (by kernel_rfl) (by simp [Value.oneCell']) ?_; intro wt r9n ht)
         refine ret_blk rfl r9n rfl Tryz.underlying25 rfl (by kernel_rfl) rfl ?_
         exact ⟨rfl, bturn hb02 ht (by omega)⟩
       · have g2 : (ak == 0) = false := by simpa using h2
         by_cases h3 : ak = 3
         · have g3 : (ak == 3) = true := by simpa using h3
           obtain ⟨rfl, rfl, rfl, rfl, rfl⟩ := G1 (fun h => h.2.2 h3)
           clear h1 h2 h3 G1 G2
           have r9 := R2.out
           go_wp2_with (refine wpList_store_blk r9 rfl _ _ _ (by rfl) _ (by rfl) (by rfl) (by repeat first | with_reducible first | exact r9 | apply Blk.alloc | apply Blk.drew | refine Blk.far ?_ (by simp <;> omega) _ | refine Blk.turn ?_ ‹_› (by omega)) (by rfl) (by kernel_rfl) (by simp [Value.oneCell']) ?_; intro wt r9n ht)
           refine ret_blk rfl r9n rfl Tryz.underlying25 rfl (by kernel_rfl) rfl ?_
           exact ⟨rfl, bturn hb02 ht (by omega)⟩
         · have g3 : (ak == 3) = false := by simpa using h3
           have G6 := G2 ⟨h1, h2, h3⟩
           clear h1 h2 h3 G1 G2
           by_cases h4 : r = -1
           · obtain ⟨rfl, rfl, rfl, rfl, rfl⟩ := G6.1 h4
             have g4 : (r == -1) = true := by simpa using h4
             clear h4 G6
             go_wp2_with fail
             refine (KC.out _ hb02).mono ?_
             rintro e w3 ⟨rfl, hb3⟩
             have hb03 := bstep hb02 hb3
             have R3 := Lib.hid (R2.out.step hb3)
             clear qu0 zu0 qu1 zu1 qu2 zu2 qu3 zu3 qu4 zu4 hlu hllu qv0 zv0 qv1 zv1 qv2 zv2 qv3 zv3 qv4 zv4 hlv hllv Hj2 Hi2 J2 I2 R2 hb3
             go_wp2_with fail
             refine (KTT.out _ hb03).mono ?_
             rintro e w4 ⟨rfl, hb4⟩
             have hb04 := bstep hb03 hb4
             have r9 := R3.out.step hb4
             go_wp2_with (refine wpList_store_blk r9 rfl _ _ _ (by rfl) _ (by rfl) (by rfl) (by repeat first | with_reducible first | exact r9 | apply Blk.alloc | apply Blk.drew | refine Blk.far ?_ (by simp <;> omega) _ | refine Blk.turn ?_ ‹_› (by omega)) (by rfl) (by kernel_rfl) (by simp [Value.oneCell']) ?_; intro wt r9n ht)
             refine ret_blk rfl r9n rfl Tryz.underlying25 rfl (by kernel_rfl) rfl ?_
             exact ⟨rfl, bturn hb04 ht (by omega)⟩
           · obtain ⟨rfl, rfl, rfl, rfl, rfl⟩ := G6.2 h4
             have g4 : (r == -1) = false := by simpa using h4
             clear h4 G6
             go_wp2_with fail
             refine (KC.out _ hb02).mono ?_
             rintro e w3 ⟨rfl, hb3⟩
             have hb03 := bstep hb02 hb3
             have R3 := Lib.hid (R2.out.step hb3)
             clear qu0 zu0 qu1 zu1 qu2 zu2 qu3 zu3 qu4 zu4 hlu hllu qv0 zv0 qv1 zv1 qv2 zv2 qv3 zv3 qv4 zv4 hlv hllv Hj2 Hi2 J2 I2 R2 hb3
             go_wp2_with fail
             refine (KTF.out _ hb03).mono ?_
             rintro e w4 ⟨rfl, hb4⟩
             have hb04 := bstep hb03 hb4
             have r9 := R3.out.step hb4
             go_wp2_with (refine wpList_store_blk r9 rfl _ _ _ (by rfl) _ (by rfl) (by rfl) (by repeat first | with_reducible first | exact r9 | apply Blk.alloc | apply Blk.drew | refine Blk.far ?_ (by simp <;> omega) _ | refine Blk.turn ?_ ‹_› (by omega)) (by rfl) (by kernel_rfl) (by simp [Value.oneCell']) ?_; intro wt r9n ht)
             refine ret_blk rfl r9n rfl Tryz.underlying25 rfl (by kernel_rfl) rfl ?_
             exact ⟨rfl, bturn hb04 ht (by omega)⟩
     · have g1 : (ak != bk) = true := by simpa using h1
       obtain ⟨rfl, rfl, rfl, rfl, rfl⟩ := G1 (fun h => h1 h.1)
       clear h1 G1 G2
       have r9 := R2.out
       go_wp2_with (refine wpList_store_blk r9 rfl _ _ _ (by rfl) _ (by rfl) (by rfl) (by repeat first | with_reducible first | exact r9 | apply Blk.alloc | apply Blk.drew | refine Blk.far ?_ (by simp <;> omega) _ | refine Blk.turn ?_ ‹_› (by omega)) (by rfl) (by kernel_rfl) (by simp [Value.oneCell']) ?_; intro wt r9n ht)
       refine ret_blk rfl r9n rfl Tryz.underlying25 rfl (by kernel_rfl) rfl ?_
       exact ⟨rfl, bturn hb02 ht (by omega)⟩
theorem z_parts {d : Vl} (h : d = zeroV) : d.k = 0 ∧ d.n = 0 ∧ d.s = 0 ∧ bs d.t = ⟨#[]⟩ ∧ d.m = 0 := by rw [h]; exact ⟨rfl, rfl, rfl, rfl, rfl⟩
theorem t_parts {d : Vl} (h : d = truV true) : d.k = 3 ∧ d.n = 0 ∧ d.s = 0 ∧ bs d.t = ⟨#[]⟩ ∧ d.m = 1 := by rw [h]; exact ⟨rfl, rfl, rfl, rfl, rfl⟩
theorem f_parts {d : Vl} (h : d = truV false) : d.k = 3 ∧ d.n = 0 ∧ d.s = 0 ∧ bs d.t = ⟨#[]⟩ ∧ d.m = 0 := by rw [h]; exact ⟨rfl, rfl, rfl, rfl, rfl⟩
theorem sd_zero {a : Vl} (h : sd a = true) (k : a.k = 0) : a = zeroV := by
 have s := (sd_iff a).1 h
 obtain ⟨ak, an, as', at', am⟩ := a
 unfold vSound at s
 simp only at s k
 subst k
 rcases s with s | s | s | s | s
 case inl => obtain ⟨_, rfl, rfl, rfl, rfl⟩ := s; rfl
 all_goals exact absurd s.1 (by decide)
/-- What Equal says in each of its ways. -/
theorem eq_ways (a b : Vl) (h1 : sd a = true) (h2 : sd b = true) : (a.k = 0 → b.k = 0 → eqC a b = truV true) ∧ (a.k = 0 → ¬ b.k = 0 → eqC a b = truV false) ∧ (¬ a.k = 0 → b.k = 0 → eqC a b = truV false) ∧ (¬ a.k = 0 → ¬ b.k = 0 → ¬ a.k = b.k → eqC a b = zeroV) ∧ (¬ a.k = 0 → ¬ b.k = 0 → a.k = b.k → (ordC a b = 0 → eqC a b = truV true) ∧ (¬ ordC a b = 0 → eqC a b = truV false)) := by
 have e : a.k = 0 ∨ b.k = 0 ∨ a.k = b.k → eqC a b = truV (vEq a b) := fun h => by unfold eqC; rw [h1, h2, if_pos (by simp), if_pos h]
 refine ⟨fun p q => ?_, fun p q => ?_, fun p q => ?_, fun p q r => ?_, fun p q r => ⟨fun z => ?_, fun z => ?_⟩⟩
 · rw [e (.inl p), sd_zero h1 p, sd_zero h2 q, vEq_self]
 · rw [e (.inl p), vEq_no fun h => q ((congrArg Vl.k h).symm.trans p)]
 · rw [e (.inr (.inl q)), vEq_no fun h => p ((congrArg Vl.k h).trans q)]
 · unfold eqC
   rw [h1, h2, if_pos (by simp), if_neg (by omega)]
 · rw [e (.inr (.inr r)), ord_zero ((sd_iff a).1 h1) ((sd_iff b).1 h2) r p z, vEq_self]
 · rw [e (.inr (.inr r)), vEq_no fun h => z (by rw [h]; exact ord_self b)]
theorem tt_vl (w : World) : Calls Tryz.prog 21 #[.bool true] w fun e w' => e = .returned (.agg #[.int .i64 3, .int .i64 0, .int .i64 0, .string ⟨#[]⟩, .int .i64 1]) ∧ Below w.heap.size w w' := rtruth_vl true w
theorem tf_vl (w : World) : Calls Tryz.prog 21 #[.bool false] w fun e w' => e = .returned (.agg #[.int .i64 3, .int .i64 0, .int .i64 0, .string ⟨#[]⟩, .int .i64 0]) ∧ Below w.heap.size w w' := rtruth_vl false w
theorem r11e_vl (a b : Vl) (ha : VOk a) (hb : VOk b) (w : World) :
   Calls Tryz.prog 18 #[.agg (cellsV a), .agg (cellsV b)] w fun e w' => e = .returned (.agg (cellsV (eqC a b))) ∧ Below w.heap.size w w' := by
 refine r11e_walk _ _ _ _ _ _ _ _ _ _ (eqC a b).k (eqC a b).n (eqC a b).s (eqC a b).m (bs (eqC a b).t) _ _ (sd a) (sd b) w (Lib.hid ⟨fun h => z_parts ?_, fun h => z_parts ?_, fun h1 h2 => ?_⟩) (Lib.hid fun W _ => r4_sd a ha W) (Lib.hid fun W _ => r4_sd b hb W) (Lib.hid fun W _ => r4c_vl a b ha hb W) (Lib.hid fun W _ => tt_vl W) (Lib.hid fun W _ => tf_vl W)
 · unfold eqC; rw [h, if_neg (by simp)]
 · unfold eqC; rw [h, if_neg (by simp)]
 · obtain ⟨e1, e2, e3, e4, e5⟩ := eq_ways a b h1 h2
   rw [h1, h2, if_pos (by simp)]
   exact ⟨fun p q => t_parts (e1 p q), fun p q => f_parts (e2 p q), fun p q => f_parts (e3 p q), fun p q r => z_parts (e4 p q r), fun p q r => ⟨fun z => t_parts ((e5 p q r).1 z), fun z => f_parts ((e5 p q r).2 z)⟩⟩
theorem r11l_vl (a b : Vl) (ha : VOk a) (hb : VOk b) (w : World) :
   Calls Tryz.prog 20 #[.agg (cellsV a), .agg (cellsV b)] w fun e w' => e = .returned (.agg (cellsV (lessC a b))) ∧ Below w.heap.size w w' := by
 refine r11l_walk _ _ _ _ _ _ _ _ _ _ (lessC a b).k (lessC a b).n (lessC a b).s (lessC a b).m (bs (lessC a b).t) _ _ (sd a) (sd b) w (Lib.hid ⟨fun h => z_parts ?_, fun h => z_parts ?_, fun h1 h2 => ⟨fun c => z_parts ?_, fun c => ?_⟩⟩) (Lib.hid fun W _ => r4_sd a ha W) (Lib.hid fun W _ => r4_sd b hb W) (Lib.hid fun W _ => r4c_vl a b ha hb W) (Lib.hid fun W _ => tt_vl W) (Lib.hid fun W _ => tf_vl W)
 · unfold lessC; rw [h, if_neg (by simp)]
 · unfold lessC; rw [h, if_neg (by simp)]
 · unfold lessC; rw [if_neg fun h => c h.2]
 · have hs : (sd a && sd b) = true := by rw [h1, h2]; rfl
   have e : lessC a b = truV (decide (ordC a b < 0)) := by unfold lessC; rw [if_pos ⟨hs, c⟩]
   rw [if_pos hs]
   have ho := ord_ways a b
   exact ⟨fun z => t_parts (by rw [e, z]; rfl), fun z => f_parts (by rw [e, decide_eq_false (by omega)])⟩
end Go.Proofs.YtapilekangmcoaaGreatDoor
