/- The walk of the law CalcThree. -/
import Derived.Test.YtapilekangmcoaaGreatDoorA53
set_option linter.unusedVariables false
set_option linter.unusedSimpArgs false
set_option maxHeartbeats 8000000
set_option maxRecDepth 100000
namespace Go.Proofs.YtapilekangmcoaaGreatDoor
open Go.RowKit Go.Shelf
attribute [local go_sem high] run_vl_eql run_vl_neq
/-- How many are true. -/
def cntT (L : List Vl) : Nat := (L.filter fun v => vEq v (truV true)).length
theorem cntT_at {L : List Vl} {k : Nat} {v : Vl} (h : L[k]? = some v) : cntT (L.take (k + 1)) = cntT (L.take k) + if vEq v (truV true) = true then 1 else 0 := by
 obtain ⟨hk, rfl⟩ := List.getElem?_eq_some_iff.1 h
 unfold cntT
 rw [List.take_succ_eq_append_getElem hk, List.filter_append, List.length_append]
 congr 1
 by_cases hv : vEq L[k] (truV true) = true
 · simp [List.filter, hv]
 · simp [List.filter, hv]
theorem ct_walk (ak an as' am : Int) (aq : ByteArray) (bk bn bs' bm : Int) (bq : ByteArray) (v1 v2 v3 : Vl) (sa sb : Bool) (n : Nat) (w : World) (HNN : Hid (cntT [v1, v2, v3] = n)) (HG : Hid ((sa = false → n = 0) ∧ (sa = true → sb = false → n = 0) ∧ (sa = true → sb = true → ((ak == bk) = true ∧ (ak != 3) = true ∧ (ak != 0) = true ∧ n = 1) ∨ (∃ e, (n : Int) ≤ 1 ∧ ((n : Int) == 1) = e ∧ vlq ak an as' aq am bk bn bs' bq bm = e ∧ ((ak == bk) = false ∨ ((ak == bk) = true ∧ (ak != 3) = false) ∨ ((ak == bk) = true ∧ (ak != 3) = true ∧ (ak != 0) = false))))))
   (KL : Hid (∀ W, Below w.heap.size w W → Calls Tryz.prog 19 #[.agg #[.int .i64 ak, .int .i64 an, .int .i64 as', .string aq, .int .i64 am], .agg #[.int .i64 bk, .int .i64 bn, .int .i64 bs', .string bq, .int .i64 bm]] W fun e w' => e = .returned (.agg #[.int .i64 v1.k, .int .i64 v1.n, .int .i64 v1.s, .string (bs v1.t), .int .i64 v1.m]) ∧ Below W.heap.size W w'))
   (KE : Hid (∀ W, Below w.heap.size w W → Calls Tryz.prog 17 #[.agg #[.int .i64 ak, .int .i64 an, .int .i64 as', .string aq, .int .i64 am], .agg #[.int .i64 bk, .int .i64 bn, .int .i64 bs', .string bq, .int .i64 bm]] W fun e w' => e = .returned (.agg #[.int .i64 v2.k, .int .i64 v2.n, .int .i64 v2.s, .string (bs v2.t), .int .i64 v2.m]) ∧ Below W.heap.size W w'))
   (KM : Hid (∀ W, Below w.heap.size w W → Calls Tryz.prog 19 #[.agg #[.int .i64 bk, .int .i64 bn, .int .i64 bs', .string bq, .int .i64 bm], .agg #[.int .i64 ak, .int .i64 an, .int .i64 as', .string aq, .int .i64 am]] W fun e w' => e = .returned (.agg #[.int .i64 v3.k, .int .i64 v3.n, .int .i64 v3.s, .string (bs v3.t), .int .i64 v3.m]) ∧ Below W.heap.size W w'))
   (HA : Hid (∀ W, Below w.heap.size w W → Calls Tryz.prog 11 #[] W fun e w' => e = .returned (.bool true) ∧ Below W.heap.size W w'))
   (HT : Hid (∀ W, Below w.heap.size w W → Calls Tryz.prog 21 #[.bool true] W fun e w' => e = .returned (.agg #[.int .i64 3, .int .i64 0, .int .i64 0, .string ⟨#[]⟩, .int .i64 1]) ∧ Below W.heap.size W w'))
   (HSa : Hid (∀ W, Below w.heap.size w W → Calls Tryz.prog 22 #[.agg #[.int .i64 ak, .int .i64 an, .int .i64 as', .string aq, .int .i64 am]] W fun e w' => e = .returned (.bool sa) ∧ Below W.heap.size W w'))
   (HSb : Hid (∀ W, Below w.heap.size w W → Calls Tryz.prog 22 #[.agg #[.int .i64 bk, .int .i64 bn, .int .i64 bs', .string bq, .int .i64 bm]] W fun e w' => e = .returned (.bool sb) ∧ Below W.heap.size W w')) :
   Calls Tryz.prog 6 #[.agg #[.int .i64 ak, .int .i64 an, .int .i64 as', .string aq, .int .i64 am], .agg #[.int .i64 bk, .int .i64 bn, .int .i64 bs', .string bq, .int .i64 bm]] w fun e w' => e = .returned (.bool true) ∧ Below w.heap.size w w' := by
 have Ka0 : Hid (Blk ((w.alloc (.cells #[.int .i64 ak, .int .i64 an, .int .i64 as', .string aq, .int .i64 am] 25)).alloc (.cells #[.int .i64 bk, .int .i64 bn, .int .i64 bs', .string bq, .int .i64 bm] 25)) w.heap.size 25 #[.int .i64 ak, .int .i64 an, .int .i64 as', .string aq, .int .i64 am]) := Lib.hid ((Blk.new _ _ _).alloc _)
 have Kb0 : Hid (Blk ((w.alloc (.cells #[.int .i64 ak, .int .i64 an, .int .i64 as', .string aq, .int .i64 am] 25)).alloc (.cells #[.int .i64 bk, .int .i64 bn, .int .i64 bs', .string bq, .int .i64 bm] 25)) (w.heap.size + 1) 25 #[.int .i64 bk, .int .i64 bn, .int .i64 bs', .string bq, .int .i64 bm]) := Lib.hid (Blk.new' _ _ _ (by simp))
 have hb00 : Below w.heap.size w ((w.alloc (.cells #[.int .i64 ak, .int .i64 an, .int .i64 as', .string aq, .int .i64 am] 25)).alloc (.cells #[.int .i64 bk, .int .i64 bn, .int .i64 bs', .string bq, .int .i64 bm] 25)) := by (repeat' first | (with_reducible first | exact .refl _ _ | assumption | apply balloc | apply Below.drew | apply bset | refine bstep ?_ ‹_› | refine bturn ?_ ‹_› ?_) | go_size)
 go_enter Tryz.func6, Tryz.ntmps6
 go_upto_region 2 with fail
 generalize ((w.alloc (.cells #[.int .i64 ak, .int .i64 an, .int .i64 as', .string aq, .int .i64 am] 25)).alloc (.cells #[.int .i64 bk, .int .i64 bn, .int .i64 bs', .string bq, .int .i64 bm] 25)) = w0 at *
 have KL0 := Lib.hid fun W (h : Below w0.heap.size w0 W) => KL.out W (bstep hb00 h)
 have KM0 := Lib.hid fun W (h : Below w0.heap.size w0 W) => KM.out W (bstep hb00 h)
 have KE0 := Lib.hid fun W (h : Below w0.heap.size w0 W) => KE.out W (bstep hb00 h)
 clear KL KM KE
 have ka := Ka0.out
 have kb := Kb0.out
 obtain ⟨hlu, hllu, qu0, qu1, qu2, qu3, qu4, zu0, zu1, zu2, zu3, zu4⟩ := bf5 ka; (try simp at qu0 qu1 qu2 qu3 qu4); have Hka := Lib.hid ka; clear ka
 obtain ⟨hlv, hllv, qv0, qv1, qv2, qv3, qv4, zv0, zv1, zv2, zv3, zv4⟩ := bf5 kb; (try simp at qv0 qv1 qv2 qv3 qv4); have Hkb := Lib.hid kb; clear kb
 go_cut [17, 18, 19] (fun z y x wx => (∃ g c, z = .slice (some ⟨g, 0, none⟩) 3 c ∧ Blk wx g 25 #[.int .i64 v1.k, .int .i64 v1.n, .int .i64 v1.s, .string (bs v1.t), .int .i64 v1.m, .int .i64 v2.k, .int .i64 v2.n, .int .i64 v2.s, .string (bs v2.t), .int .i64 v2.m, .int .i64 v3.k, .int .i64 v3.n, .int .i64 v3.s, .string (bs v3.t), .int .i64 v3.m]) ∧ y = .int .i64 3 ∧ x = .int .i64 0 ∧ Below w0.heap.size w0 wx)
 case first =>
   go_region_held3 (fun w' => (w'.cell? ⟨w.heap.size, 0, none⟩ = some (.int .i64 ak) ∧ w'.cell? ⟨w.heap.size, 1, none⟩ = some (.int .i64 an) ∧ w'.cell? ⟨w.heap.size, 2, none⟩ = some (.int .i64 as') ∧ w'.cell? ⟨w.heap.size, 3, none⟩ = some (.string aq) ∧ w'.cell? ⟨w.heap.size, 4, none⟩ = some (.int .i64 am)) ∧ (w'.cell? ⟨w.heap.size + 1, 0, none⟩ = some (.int .i64 bk) ∧ w'.cell? ⟨w.heap.size + 1, 1, none⟩ = some (.int .i64 bn) ∧ w'.cell? ⟨w.heap.size + 1, 2, none⟩ = some (.int .i64 bs') ∧ w'.cell? ⟨w.heap.size + 1, 3, none⟩ = some (.string bq) ∧ w'.cell? ⟨w.heap.size + 1, 4, none⟩ = some (.int .i64 bm)) ∧ Below w0.heap.size w0 w') ((go_split_ands; (repeat' apply And.intro) <;> first | assumption | exact keep1 (by assumption) (by assumption) | exact bstep (by assumption) (by assumption) | exact keepa2 (by assumption) | (repeat' first | (with_reducible first | exact .refl _ _ | assumption | apply balloc | apply Below.drew | apply bset | refine bstep ?_ ‹_› | refine bturn ?_ ‹_› ?_) | go_size)))
     (first
       | (go_at_call_of 19 (Value.agg #[Value.int .i64 ak, Value.int .i64 an, Value.int .i64 as', Value.string aq, Value.int .i64 am]); go_split_ands; with_reducible refine (KL0.out _ (by first | assumption | (repeat' first | (with_reducible first | exact .refl _ _ | assumption | apply balloc | apply Below.drew | apply bset | refine bstep ?_ ‹_› | refine bturn ?_ ‹_› ?_) | go_size))).mono ?_; rintro e w' ⟨rfl, hb'⟩)
       | (go_at_call_of 19 (Value.agg #[Value.int .i64 bk, Value.int .i64 bn, Value.int .i64 bs', Value.string bq, Value.int .i64 bm]); go_split_ands; with_reducible refine (KM0.out _ (by first | assumption | (repeat' first | (with_reducible first | exact .refl _ _ | assumption | apply balloc | apply Below.drew | apply bset | refine bstep ?_ ‹_› | refine bturn ?_ ‹_› ?_) | go_size))).mono ?_; rintro e w' ⟨rfl, hb'⟩)
       | (go_at_call 17; go_split_ands; refine (KE0.out _ (by first | assumption | (repeat' first | (with_reducible first | exact .refl _ _ | assumption | apply balloc | apply Below.drew | apply bset | refine bstep ?_ ‹_› | refine bturn ?_ ‹_› ?_) | go_size))).mono ?_; rintro e w' ⟨rfl, hb'⟩))
   all_goals
     go_split_ands
     go_wp2_with fail
     go_meet
     case rel => exact ⟨⟨_, _, rfl, by first | exact Blk.new _ _ _ | exact Blk.new' _ _ _ (by simp)⟩, rfl, rfl, by first | assumption | (repeat' first | (with_reducible first | apply bdrewN | exact .refl _ _ | assumption | apply balloc | apply Below.drew | apply bset | refine bstep ?_ ‹_› | refine bturn ?_ ‹_› ?_) | go_size)⟩
 case rest =>
   obtain ⟨⟨G, cc, rfl, hG⟩, rfl, rfl, hb2⟩ := hcut
   rename World => w2
   have hb02 := bstep hb00 hb2
   have HGG := Lib.hid hG
   have Ka2 := Lib.hid (Ka0.out.step hb2)
   have Kb2 := Lib.hid (Kb0.out.step hb2)
   have hzG := hG.lt
   clear qu0 zu0 qu1 zu1 qu2 zu2 qu3 zu3 qu4 zu4 hlu hllu
   clear qv0 zv0 qv1 zv1 qv2 zv2 qv3 zv3 qv4 zv4 hlv hllv
   clear Hka Hkb Ka0 Kb0 hG KL0 KE0 KM0 hb00
   go_wp2_with fail
   go_loopw [5, 19] (fun x i wr => ∃ k : Nat, k ≤ 3 ∧ i = .int .i64 (k : Int) ∧ x = .int .i64 ((cntT ([v1, v2, v3].take k) : Nat) : Int) ∧ Below w.heap.size w wr ∧ Below w2.heap.size w2 wr) (fun _ i _ => 3 - (intOf i).toNat)
   case atStart => exact ⟨0, by omega, rfl, rfl, hb02, Below.refl _ _⟩
   case round =>
     obtain ⟨k, hk, rfl, rfl, hb, hb2w⟩ := hrel
     by_cases hlt : k < 3
     · obtain ⟨v, hv, c0, c1, c2, c3, c4⟩ : ∃ v, [v1, v2, v3][k]? = some v ∧ wr.cell? ⟨G, k * 5, none⟩ = some (.int .i64 v.k) ∧ wr.cell? ⟨G, k * 5 + 1, none⟩ = some (.int .i64 v.n) ∧ wr.cell? ⟨G, k * 5 + 2, none⟩ = some (.int .i64 v.s) ∧ wr.cell? ⟨G, k * 5 + 3, none⟩ = some (.string (bs v.t)) ∧ wr.cell? ⟨G, k * 5 + 4, none⟩ = some (.int .i64 v.m) := by
         have hB := HGG.out.step hb2w
         match k, hlt with
         | 0, _ => exact ⟨v1, rfl, hB.cell 0, hB.cell 1, hB.cell 2, hB.cell 3, hB.cell 4⟩
         | 1, _ => exact ⟨v2, rfl, hB.cell 5, hB.cell 6, hB.cell 7, hB.cell 8, hB.cell 9⟩
         | 2, _ => exact ⟨v3, rfl, hB.cell 10, hB.cell 11, hB.cell 12, hB.cell 13, hB.cell 14⟩
       have hki : (k : Int) < 3 := by omega
       have hkn : IntKind.i64.wrap ((k : Int) + 1) = ((k + 1 : Nat) : Int) := by rw [IntWalk.i64_in _ (by omega)]; omega
       have hct := cntT_at hv
       obtain ⟨n0, hn0⟩ : ∃ n0, cntT ([v1, v2, v3].take k) = n0 := ⟨_, rfl⟩
       have hn3 : n0 ≤ 3 := by rw [← hn0]; exact Nat.le_trans (List.length_filter_le _ _) (by rw [List.length_take]; exact Nat.le_trans (Nat.min_le_right _ _) (by simp))
       rw [hn0] at hct ⊢
       obtain ⟨e, he⟩ : ∃ e, vEq v (truV true) = e := ⟨_, rfl⟩
       have hvq := vlq_eq v (truV true)
       rw [he] at hct hvq
       have HCT := Lib.hid hct
       obtain ⟨vk, vn, vs, vt, vm⟩ := v
       simp only at c0 c1 c2 c3 c4
       obtain ⟨vq, hvt⟩ : ∃ q, bs vt = q := ⟨_, rfl⟩
       replace hvq : vlq vk vn vs (bs vt) vm 3 0 0 ⟨#[]⟩ 1 = e := hvq
       rw [hvt] at c3 hvq
       clear hn0 hct he hvt hv
       have hbV : Below w.heap.size w (wr.alloc (.cells #[.int .i64 vk, .int .i64 vn, .int .i64 vs, .string vq, .int .i64 vm] 25)) := balloc hb _
       have hb2V : Below w2.heap.size w2 (wr.alloc (.cells #[.int .i64 vk, .int .i64 vn, .int .i64 vs, .string vq, .int .i64 vm] 25)) := balloc hb2w _
       have KV : Hid (Blk (wr.alloc (.cells #[.int .i64 vk, .int .i64 vn, .int .i64 vs, .string vq, .int .i64 vm] 25)) wr.heap.size 25 #[.int .i64 vk, .int .i64 vn, .int .i64 vs, .string vq, .int .i64 vm]) := Lib.hid (Blk.new _ _ _)
       go_upto_region 5 with fail
       generalize wr.alloc (.cells #[.int .i64 vk, .int .i64 vn, .int .i64 vs, .string vq, .int .i64 vm] 25) = w5 at *
       have kv := KV.out
       clear c0 c1 c2 c3 c4
       obtain ⟨hlu, hllu, qu0, qu1, qu2, qu3, qu4, zu0, zu1, zu2, zu3, zu4⟩ := bf5 kv; (try simp at qu0 qu1 qu2 qu3 qu4); have Hkv := Lib.hid kv; clear kv
       go_cut [25] (fun z wx => z = .bool e ∧ Below w5.heap.size w5 wx)
       case first =>
         go_region_held3 (fun w' => (w'.cell? ⟨wr.heap.size, 0, none⟩ = some (.int .i64 vk)) ∧ (w'.cell? ⟨wr.heap.size, 1, none⟩ = some (.int .i64 vn)) ∧ (w'.cell? ⟨wr.heap.size, 2, none⟩ = some (.int .i64 vs)) ∧ (w'.cell? ⟨wr.heap.size, 3, none⟩ = some (.string vq)) ∧ (w'.cell? ⟨wr.heap.size, 4, none⟩ = some (.int .i64 vm))) ((first | (simp [*, World.cell?_alloc_some, World.cell?_setCell_far]; done) | (go_split_ands; (repeat' apply And.intro) <;> first | assumption | exact keep1 (by assumption) (by assumption) | (simp [go_sem]; done) | (repeat (first | (with_reducible assumption) | (with_reducible refine keepd ?_) | (with_reducible refine keepa2 ?_)))))) ((go_at_call 21; refine (HT.out _ (by first | exact hbV | exact bdrewN hbV _ | (refine bdrewN ?_ _; exact hbV))).mono ?_; rintro e' wq ⟨rfl, hbq⟩; obtain ⟨hcq, hfq⟩ := bcell hbq; have hzq := hbq.size))
         all_goals
           go_wp2_with fail
           go_meet
           case rel => exact ⟨by first | rfl | simp [hvq], by (repeat' first | (with_reducible first | apply bdrewN | exact .refl _ _ | assumption | apply balloc | apply Below.drew | apply bset | refine bstep ?_ ‹_› | refine bturn ?_ ‹_› ?_) | go_size)⟩
       case rest =>
         obtain ⟨rfl, hb6⟩ := hcut
         rename World => w6
         have hb06 := bstep hbV hb6
         have hb26 := bstep hb2V hb6
         clear qu0 zu0 qu1 zu1 qu2 zu2 qu3 zu3 qu4 zu4 hlu hllu
         clear Hkv
         have hn1 : IntKind.i64.wrap ((n0 : Int) + 1) = ((n0 + 1 : Nat) : Int) := by rw [IntWalk.i64_in _ (by omega)]; omega
         cases e with
         | true =>
           go_wp2_with fail
           go_roundw
           case rel => exact ⟨k + 1, by omega, by go_num, by rw [HCT.out]; rfl, hb06, hb26⟩
           case measure => simp [intOf]; omega
         | false =>
           go_wp2_with fail
           go_roundw
           case rel => exact ⟨k + 1, by omega, by go_num, by rw [HCT.out]; rfl, hb06, hb26⟩
           case measure => simp [intOf]; omega
     · obtain rfl : k = 3 := by omega
       have hcn : cntT ([v1, v2, v3].take 3) = n := HNN.out
       rw [hcn]
       clear hlt
       have ka := Ka2.out.step hb2w
       have kb := Kb2.out.step hb2w
       have Ka3 := Lib.hid ka
       have Kb3 := Lib.hid kb
       clear hcn
       go_wp2_with fail
       refine (HA.out _ hb).mono ?_
       rintro _ w7 ⟨rfl, hb7⟩
       have hb07 := bstep hb hb7
       have ka7 := Ka3.out.step hb7
       have kb7 := Kb3.out.step hb7
       have Ka7 := Lib.hid ka7
       have Kb7 := Lib.hid kb7
       obtain ⟨hlu, hllu, qu0, qu1, qu2, qu3, qu4, zu0, zu1, zu2, zu3, zu4⟩ := bf5 ka7; (try simp at qu0 qu1 qu2 qu3 qu4); have Hka7 := Lib.hid ka7; clear ka7
       obtain ⟨hlv, hllv, qv0, qv1, qv2, qv3, qv4, zv0, zv1, zv2, zv3, zv4⟩ := bf5 kb7; (try simp at qv0 qv1 qv2 qv3 qv4); have Hkb7 := Lib.hid kb7; clear kb7
       go_wp2_with fail
       refine (HSa.out _ hb07).mono ?_
       rintro _ w8 ⟨rfl, hb8⟩
       have hb08 := bstep hb07 hb8
       have ka8 := Ka7.out.step hb8
       have kb8 := Kb7.out.step hb8
       have Ka8 := Lib.hid ka8
       have Kb8 := Lib.hid kb8
       clear qu0 zu0 qu1 zu1 qu2 zu2 qu3 zu3 qu4 zu4 hlu hllu
       clear qv0 zv0 qv1 zv1 qv2 zv2 qv3 zv3 qv4 zv4 hlv hllv
       clear Hka7 Hkb7
       obtain ⟨hlu, hllu, qu0, qu1, qu2, qu3, qu4, zu0, zu1, zu2, zu3, zu4⟩ := bf5 ka8; (try simp at qu0 qu1 qu2 qu3 qu4); have Hka8 := Lib.hid ka8; clear ka8
       obtain ⟨hlv, hllv, qv0, qv1, qv2, qv3, qv4, zv0, zv1, zv2, zv3, zv4⟩ := bf5 kb8; (try simp at qv0 qv1 qv2 qv3 qv4); have Hkb8 := Lib.hid kb8; clear kb8
       cases sa with
       | false =>
         obtain rfl : n = 0 := HG.out.1 (by simp)
         go_wp2_with fail
         refine (HA.out _ hb08).mono ?_
         rintro _ w10 ⟨rfl, hb10⟩
         go_wp2_with fail
         go_returns
         exact ⟨by first | rfl | simp, bstep hb08 hb10⟩
       | true =>
         go_wp2_with fail
         refine (HSb.out _ hb08).mono ?_
         rintro _ w9 ⟨rfl, hb9⟩
         have hb09 := bstep hb08 hb9
         have ka9 := Ka8.out.step hb9
         have kb9 := Kb8.out.step hb9
         clear qu0 zu0 qu1 zu1 qu2 zu2 qu3 zu3 qu4 zu4 hlu hllu
         clear qv0 zv0 qv1 zv1 qv2 zv2 qv3 zv3 qv4 zv4 hlv hllv
         clear Hka8 Hkb8
         obtain ⟨hlu, hllu, qu0, qu1, qu2, qu3, qu4, zu0, zu1, zu2, zu3, zu4⟩ := bf5 ka9; (try simp at qu0 qu1 qu2 qu3 qu4); have Hka9 := Lib.hid ka9; clear ka9
         obtain ⟨hlv, hllv, qv0, qv1, qv2, qv3, qv4, zv0, zv1, zv2, zv3, zv4⟩ := bf5 kb9; (try simp at qv0 qv1 qv2 qv3 qv4); have Hkb9 := Lib.hid kb9; clear kb9
         cases sb with
         | false =>
           obtain rfl : n = 0 := HG.out.2.1 (by simp) (by simp)
           go_wp2_with fail
           refine (HA.out _ hb09).mono ?_
           rintro _ w10 ⟨rfl, hb10⟩
           go_wp2_with fail
           go_returns
           exact ⟨by first | rfl | simp, bstep hb09 hb10⟩
         | true =>
           rcases HG.out.2.2 (by simp) (by simp) with ⟨h1, h2, h3, rfl⟩ | ⟨e, g1, g2, g3, h1 | ⟨h1, h2⟩ | ⟨h1, h2, h3⟩⟩
           all_goals
             go_wp2_with fail
             go_returns
             exact ⟨by first | rfl | simp [*], hb09⟩
end Go.Proofs.YtapilekangmcoaaGreatDoor
