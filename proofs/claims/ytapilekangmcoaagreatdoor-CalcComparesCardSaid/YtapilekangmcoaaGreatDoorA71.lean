/- The walk of the reference's Compare. -/
import Derived.Test.YtapilekangmcoaaGreatDoorA70
set_option linter.unusedVariables false
set_option linter.unusedSimpArgs false
set_option maxHeartbeats 8000000
set_option maxRecDepth 100000
namespace Go.Proofs.YtapilekangmcoaaGreatDoor.Dq
open Go.RowKit
attribute [local go_sem high] run_dec_eql run_dec_neq
theorem rcmp_form (n s n2 s2 : Int) (hn : I64 n) (hs : I64 s) (hn2 : I64 n2) (hs2 : I64 s2) (h : ¬ (soundS n s && soundS n2 s2) = true) (w : World) :
   Calls Tryz.prog 69 #[.agg #[.int .i64 n, .int .i64 s], .agg #[.int .i64 n2, .int .i64 s2]] w fun e w' => e = .returned (.tuple #[.int .i64 0, .int .i64 2]) ∧ Below w.heap.size w w' := by
 have HN : Hid ((I64 n ∧ I64 s) ∧ I64 n2 ∧ I64 s2) := ⟨⟨hn, hs⟩, hn2, hs2⟩
 clear hn hs hn2 hs2
 have hb2 := Blk.new' (w.alloc (.cells #[.int .i64 n, .int .i64 s] 23)) 23 #[.int .i64 n2, .int .i64 s2] (n := w.heap.size + 1) (by simp)
 by_cases h1 : soundS n s = true
 · have h2 : soundS n2 s2 = false := by
     rw [h1, Bool.true_and] at h; simpa using h
   clear h
   go_enter Tryz.func69, Tryz.ntmps69
   go_wp2_with fail
   refine (rsound_any n s HN.out.1.1.1 HN.out.1.1.2 HN.out.1.2.1 HN.out.1.2.2 _).mono ?_
   rintro e w1 ⟨rfl, hb⟩
   replace hb2 := hb2.step hb
   have e0 := hb2.cell 0
   have e1 := hb2.cell 1
   simp at e0 e1
   go_wp2_with fail
   refine (rsound_any n2 s2 HN.out.2.1.1 HN.out.2.1.2 HN.out.2.2.1 HN.out.2.2.2 _).mono ?_
   rintro e w2 ⟨rfl, hb'⟩
   go_wp2
   go_returns
   exact ⟨rfl, by (repeat' first | (with_reducible first | exact .refl _ _ | assumption | apply balloc | apply Below.drew | apply bset | refine bstep ?_ ‹_› | refine bturn ?_ ‹_› ?_) | go_size)⟩
 · replace h1 : soundS n s = false := by simpa using h1
   clear h
   go_enter Tryz.func69, Tryz.ntmps69
   go_wp2_with fail
   refine (rsound_any n s HN.out.1.1.1 HN.out.1.1.2 HN.out.1.2.1 HN.out.1.2.2 _).mono ?_
   rintro e w1 ⟨rfl, hb⟩
   go_wp2
   go_returns
   exact ⟨rfl, by (repeat' first | (with_reducible first | exact .refl _ _ | assumption | apply balloc | apply Below.drew | apply bset | refine bstep ?_ ‹_› | refine bturn ?_ ‹_› ?_) | go_size)⟩
set_option maxHeartbeats 4000000 in
theorem rcmp_np (n s n2 s2 : Int) (hn : I64 n) (hs : I64 s) (hn2 : I64 n2) (hs2 : I64 s2) (h1 : soundS n s = true) (h2 : soundS n2 s2 = true) (g0 : n < 0) (g2' : 0 ≤ n2) (w : World) :
   Calls Tryz.prog 69 #[.agg #[.int .i64 n, .int .i64 s], .agg #[.int .i64 n2, .int .i64 s2]] w fun e w' => e = .returned (.tuple #[.int .i64 (-1), .int .i64 0]) ∧ Below w.heap.size w w' := by
 have HN : Hid ((I64 n ∧ I64 s) ∧ I64 n2 ∧ I64 s2) := ⟨⟨hn, hs⟩, hn2, hs2⟩
 clear hn hs hn2 hs2
 have hb0 := (Blk.new w 23 #[.int .i64 n, .int .i64 s]).alloc (.cells #[.int .i64 n2, .int .i64 s2] 23)
 have hb2 := Blk.new' (w.alloc (.cells #[.int .i64 n, .int .i64 s] 23)) 23 #[.int .i64 n2, .int .i64 s2] (n := w.heap.size + 1) (by simp)
 go_enter Tryz.func69, Tryz.ntmps69
 go_wp2_with fail
 refine (rsound_any n s HN.out.1.1.1 HN.out.1.1.2 HN.out.1.2.1 HN.out.1.2.2 _).mono ?_
 rintro e w1 ⟨rfl, hb⟩
 replace hb0 := hb0.step hb
 replace hb2 := hb2.step hb
 have e0 := hb2.cell 0
 have e1 := hb2.cell 1
 simp at e0 e1
 go_wp2_with fail
 refine (rsound_any n2 s2 HN.out.2.1.1 HN.out.2.1.2 HN.out.2.2.1 HN.out.2.2.2 _).mono ?_
 rintro e w2 ⟨rfl, hb'⟩
 replace hb0 := hb0.step hb'
 replace hb2 := hb2.step hb'
 have hbl : Below w.heap.size w w2 := by (repeat' first | (with_reducible first | exact .refl _ _ | assumption | apply balloc | apply Below.drew | apply bset | refine bstep ?_ ‹_› | refine bturn ?_ ‹_› ?_) | go_size)
 have c0 := hb0.cell 0
 have c1 := hb0.cell 1
 have e2 := hb2.cell 0
 have e3 := hb2.cell 1
 simp at c0 c1 e2 e3
 clear e0 e1
 go_wp2
 go_returns
 exact ⟨rfl, by (repeat' first | (with_reducible first | exact .refl _ _ | assumption | apply balloc | apply Below.drew | apply bset | refine bstep ?_ ‹_› | refine bturn ?_ ‹_› ?_) | go_size)⟩
set_option maxHeartbeats 4000000 in
theorem rcmp_pn (n s n2 s2 : Int) (hn : I64 n) (hs : I64 s) (hn2 : I64 n2) (hs2 : I64 s2) (h1 : soundS n s = true) (h2 : soundS n2 s2 = true) (g0 : 0 ≤ n) (g2' : n2 < 0) (w : World) :
   Calls Tryz.prog 69 #[.agg #[.int .i64 n, .int .i64 s], .agg #[.int .i64 n2, .int .i64 s2]] w fun e w' => e = .returned (.tuple #[.int .i64 (1), .int .i64 0]) ∧ Below w.heap.size w w' := by
 have HN : Hid ((I64 n ∧ I64 s) ∧ I64 n2 ∧ I64 s2) := ⟨⟨hn, hs⟩, hn2, hs2⟩
 clear hn hs hn2 hs2
 have hb0 := (Blk.new w 23 #[.int .i64 n, .int .i64 s]).alloc (.cells #[.int .i64 n2, .int .i64 s2] 23)
 have hb2 := Blk.new' (w.alloc (.cells #[.int .i64 n, .int .i64 s] 23)) 23 #[.int .i64 n2, .int .i64 s2] (n := w.heap.size + 1) (by simp)
 go_enter Tryz.func69, Tryz.ntmps69
 go_wp2_with fail
 refine (rsound_any n s HN.out.1.1.1 HN.out.1.1.2 HN.out.1.2.1 HN.out.1.2.2 _).mono ?_
 rintro e w1 ⟨rfl, hb⟩
 replace hb0 := hb0.step hb
 replace hb2 := hb2.step hb
 have e0 := hb2.cell 0
 have e1 := hb2.cell 1
 simp at e0 e1
 go_wp2_with fail
 refine (rsound_any n2 s2 HN.out.2.1.1 HN.out.2.1.2 HN.out.2.2.1 HN.out.2.2.2 _).mono ?_
 rintro e w2 ⟨rfl, hb'⟩
 replace hb0 := hb0.step hb'
 replace hb2 := hb2.step hb'
 have hbl : Below w.heap.size w w2 := by (repeat' first | (with_reducible first | exact .refl _ _ | assumption | apply balloc | apply Below.drew | apply bset | refine bstep ?_ ‹_› | refine bturn ?_ ‹_› ?_) | go_size)
 have c0 := hb0.cell 0
 have c1 := hb0.cell 1
 have e2 := hb2.cell 0
 have e3 := hb2.cell 1
 simp at c0 c1 e2 e3
 clear e0 e1
 go_wp2
 go_returns
 exact ⟨rfl, by (repeat' first | (with_reducible first | exact .refl _ _ | assumption | apply balloc | apply Below.drew | apply bset | refine bstep ?_ ‹_› | refine bturn ?_ ‹_› ?_) | go_size)⟩
set_option maxHeartbeats 4000000 in
theorem rcmp_nlt (n s n2 s2 : Int) (N t N2 t2 : Nat) (hn : I64 n) (hs : I64 s) (hn2 : I64 n2) (hs2 : I64 s2) (h1 : soundS n s = true) (h2 : soundS n2 s2 = true) (hN : mag n = (N : Int)) (ht : s = 12 - (t : Int)) (hN2 : mag n2 = (N2 : Int)) (ht2 : s2 = 12 - (t2 : Int)) (t0 : 6 ≤ t) (t1 : t ≤ 12) (t3 : 6 ≤ t2) (t4 : t2 ≤ 12) (hA : N * 10 ^ t < 10 ^ 60) (hB : N2 * 10 ^ t2 < 10 ^ 60) (hL : decide (N * 10 ^ t < N2 * 10 ^ t2) = true) (hL2 : decide (N2 * 10 ^ t2 < N * 10 ^ t) = false) (g0 : n < 0) (g2' : n2 < 0) (w : World) :
   Calls Tryz.prog 69 #[.agg #[.int .i64 n, .int .i64 s], .agg #[.int .i64 n2, .int .i64 s2]] w fun e w' => e = .returned (.tuple #[.int .i64 (1), .int .i64 0]) ∧ Below w.heap.size w w' := by
 have HN : Hid ((I64 n ∧ I64 s) ∧ I64 n2 ∧ I64 s2) := ⟨⟨hn, hs⟩, hn2, hs2⟩
 obtain ⟨b1, b2, b3, b4, _⟩ := sound_bd h1
 obtain ⟨d1, d2, d3, d4, _⟩ := sound_bd h2
 have HLa := Lib.hid (fun w => long_ex n s N t w b3 b4 hN ht t0 t1)
 have HLb := Lib.hid (fun w => long_ex n2 s2 N2 t2 w d3 d4 hN2 ht2 t3 t4)
 have HA := Lib.hid hA
 have HB := Lib.hid hB
 have HQ := Lib.hid hL
 have HQ2 := Lib.hid hL2
 clear hN ht hN2 ht2 hA hB hL hL2 b1 b2 b3 b4 d1 d2 d3 d4
 clear hn hs hn2 hs2
 have hb0 := (Blk.new w 23 #[.int .i64 n, .int .i64 s]).alloc (.cells #[.int .i64 n2, .int .i64 s2] 23)
 have hb2 := Blk.new' (w.alloc (.cells #[.int .i64 n, .int .i64 s] 23)) 23 #[.int .i64 n2, .int .i64 s2] (n := w.heap.size + 1) (by simp)
 go_enter Tryz.func69, Tryz.ntmps69
 go_wp2_with fail
 refine (rsound_any n s HN.out.1.1.1 HN.out.1.1.2 HN.out.1.2.1 HN.out.1.2.2 _).mono ?_
 rintro e w1 ⟨rfl, hb⟩
 replace hb0 := hb0.step hb
 replace hb2 := hb2.step hb
 have e0 := hb2.cell 0
 have e1 := hb2.cell 1
 simp at e0 e1
 go_wp2_with fail
 refine (rsound_any n2 s2 HN.out.2.1.1 HN.out.2.1.2 HN.out.2.2.1 HN.out.2.2.2 _).mono ?_
 rintro e w2 ⟨rfl, hb'⟩
 replace hb0 := hb0.step hb'
 replace hb2 := hb2.step hb'
 have hbl : Below w.heap.size w w2 := by (repeat' first | (with_reducible first | exact .refl _ _ | assumption | apply balloc | apply Below.drew | apply bset | refine bstep ?_ ‹_› | refine bturn ?_ ‹_› ?_) | go_size)
 have c0 := hb0.cell 0
 have c1 := hb0.cell 1
 have e2 := hb2.cell 0
 have e3 := hb2.cell 1
 simp at c0 c1 e2 e3
 clear e0 e1
 go_upto_region 10 with fail
 go_cut [38] (fun x wx => x = .bool (decide (N * 10 ^ t < N2 * 10 ^ t2)) ∧ Blk wx w.heap.size 23 #[.int .i64 n, .int .i64 s] ∧ Blk wx (w.heap.size + 1) 23 #[.int .i64 n2, .int .i64 s2] ∧ Below w.heap.size w wx)
 case first =>
   go_region_held3 (fun w' => (Blk w' w.heap.size 23 #[.int .i64 n, .int .i64 s]) ∧ (Blk w' (w.heap.size + 1) 23 #[.int .i64 n2, .int .i64 s2]) ∧ (Below w.heap.size w w') ∧ (w'.cell? ⟨w.heap.size, 0, none⟩ = some (.int .i64 n) ∧ w'.cell? ⟨w.heap.size, 1, none⟩ = some (.int .i64 s)) ∧ w'.cell? ⟨w.heap.size + 1, 0, none⟩ = some (.int .i64 n2) ∧ w'.cell? ⟨w.heap.size + 1, 1, none⟩ = some (.int .i64 s2)) ((go_split_ands; (repeat' apply And.intro) <;> first | assumption | exact keep1 (by assumption) (by assumption) | exact Blk.step (by assumption) (by assumption) | ((repeat' first | (with_reducible first | exact .refl _ _ | assumption | apply balloc | apply Below.drew | apply bset | refine bstep ?_ ‹_› | refine bturn ?_ ‹_› ?_) | go_size))))
     (first
       | (go_at_call_of 107 (Value.agg #[Value.int .i64 n, Value.int .i64 s]); refine (HLa.out _).mono ?_; rintro e w3 ⟨⟨g, rfl, hrow⟩, hb3⟩)
       | (go_at_call_of 107 (Value.agg #[Value.int .i64 n2, Value.int .i64 s2]); refine (HLb.out _).mono ?_; rintro e w4 ⟨⟨g2, rfl, hrow2⟩, hb4⟩)
       | (go_at_call 106; refine (rless_any g 0 60 g2 0 60 60 (N * 10 ^ t) (N2 * 10 ^ t2) _ (by omega) (by first | exact hrow | exact hrow.step (by (repeat' first | (with_reducible first | exact .refl _ _ | assumption | apply balloc | apply Below.drew | apply bset | refine bstep ?_ ‹_› | refine bturn ?_ ‹_› ?_) | go_size))) (by first | exact hrow2 | exact hrow2.step (by (repeat' first | (with_reducible first | exact .refl _ _ | assumption | apply balloc | apply Below.drew | apply bset | refine bstep ?_ ‹_› | refine bturn ?_ ‹_› ?_) | go_size))) HA.out HB.out).mono ?_; rintro e w5 ⟨rfl, hb5⟩))
   all_goals
     go_split_ands
     go_wp2_with fail
     go_meet
     case rel => exact ⟨rfl, by assumption, by assumption, by first | assumption | (repeat' first | (with_reducible first | exact .refl _ _ | assumption | apply balloc | apply Below.drew | apply bset | refine bstep ?_ ‹_› | refine bturn ?_ ‹_› ?_) | go_size)⟩
 case rest =>
   obtain ⟨rfl, k0, k2, hbc⟩ := hcut
   rw [HQ.out]
   have x0 := k0.cell 0
   have x1 := k0.cell 1
   have x2 := k2.cell 0
   have x3 := k2.cell 1
   simp at x0 x1 x2 x3
   clear c0 c1 e2 e3 hb0 hb2 hb hb' hbl
   go_wp2
   go_returns
   exact ⟨rfl, by first | assumption | (repeat' first | (with_reducible first | exact .refl _ _ | assumption | apply balloc | apply Below.drew | apply bset | refine bstep ?_ ‹_› | refine bturn ?_ ‹_› ?_) | go_size)⟩
set_option maxHeartbeats 4000000 in
theorem rcmp_ngt (n s n2 s2 : Int) (N t N2 t2 : Nat) (hn : I64 n) (hs : I64 s) (hn2 : I64 n2) (hs2 : I64 s2) (h1 : soundS n s = true) (h2 : soundS n2 s2 = true) (hN : mag n = (N : Int)) (ht : s = 12 - (t : Int)) (hN2 : mag n2 = (N2 : Int)) (ht2 : s2 = 12 - (t2 : Int)) (t0 : 6 ≤ t) (t1 : t ≤ 12) (t3 : 6 ≤ t2) (t4 : t2 ≤ 12) (hA : N * 10 ^ t < 10 ^ 60) (hB : N2 * 10 ^ t2 < 10 ^ 60) (hL : decide (N * 10 ^ t < N2 * 10 ^ t2) = false) (hL2 : decide (N2 * 10 ^ t2 < N * 10 ^ t) = true) (g0 : n < 0) (g2' : n2 < 0) (w : World) :
   Calls Tryz.prog 69 #[.agg #[.int .i64 n, .int .i64 s], .agg #[.int .i64 n2, .int .i64 s2]] w fun e w' => e = .returned (.tuple #[.int .i64 (-1), .int .i64 0]) ∧ Below w.heap.size w w' := by
 have HN : Hid ((I64 n ∧ I64 s) ∧ I64 n2 ∧ I64 s2) := ⟨⟨hn, hs⟩, hn2, hs2⟩
 obtain ⟨b1, b2, b3, b4, _⟩ := sound_bd h1
 obtain ⟨d1, d2, d3, d4, _⟩ := sound_bd h2
 have HLa := Lib.hid (fun w => long_ex n s N t w b3 b4 hN ht t0 t1)
 have HLb := Lib.hid (fun w => long_ex n2 s2 N2 t2 w d3 d4 hN2 ht2 t3 t4)
 have HA := Lib.hid hA
 have HB := Lib.hid hB
 have HQ := Lib.hid hL
 have HQ2 := Lib.hid hL2
 clear hN ht hN2 ht2 hA hB hL hL2 b1 b2 b3 b4 d1 d2 d3 d4
 clear hn hs hn2 hs2
 have hb0 := (Blk.new w 23 #[.int .i64 n, .int .i64 s]).alloc (.cells #[.int .i64 n2, .int .i64 s2] 23)
 have hb2 := Blk.new' (w.alloc (.cells #[.int .i64 n, .int .i64 s] 23)) 23 #[.int .i64 n2, .int .i64 s2] (n := w.heap.size + 1) (by simp)
 go_enter Tryz.func69, Tryz.ntmps69
 go_wp2_with fail
 refine (rsound_any n s HN.out.1.1.1 HN.out.1.1.2 HN.out.1.2.1 HN.out.1.2.2 _).mono ?_
 rintro e w1 ⟨rfl, hb⟩
 replace hb0 := hb0.step hb
 replace hb2 := hb2.step hb
 have e0 := hb2.cell 0
 have e1 := hb2.cell 1
 simp at e0 e1
 go_wp2_with fail
 refine (rsound_any n2 s2 HN.out.2.1.1 HN.out.2.1.2 HN.out.2.2.1 HN.out.2.2.2 _).mono ?_
 rintro e w2 ⟨rfl, hb'⟩
 replace hb0 := hb0.step hb'
 replace hb2 := hb2.step hb'
 have hbl : Below w.heap.size w w2 := by (repeat' first | (with_reducible first | exact .refl _ _ | assumption | apply balloc | apply Below.drew | apply bset | refine bstep ?_ ‹_› | refine bturn ?_ ‹_› ?_) | go_size)
 have c0 := hb0.cell 0
 have c1 := hb0.cell 1
 have e2 := hb2.cell 0
 have e3 := hb2.cell 1
 simp at c0 c1 e2 e3
 clear e0 e1
 go_upto_region 10 with fail
 go_cut [38] (fun x wx => x = .bool (decide (N * 10 ^ t < N2 * 10 ^ t2)) ∧ Blk wx w.heap.size 23 #[.int .i64 n, .int .i64 s] ∧ Blk wx (w.heap.size + 1) 23 #[.int .i64 n2, .int .i64 s2] ∧ Below w.heap.size w wx)
 case first =>
   go_region_held3 (fun w' => (Blk w' w.heap.size 23 #[.int .i64 n, .int .i64 s]) ∧ (Blk w' (w.heap.size + 1) 23 #[.int .i64 n2, .int .i64 s2]) ∧ (Below w.heap.size w w') ∧ (w'.cell? ⟨w.heap.size, 0, none⟩ = some (.int .i64 n) ∧ w'.cell? ⟨w.heap.size, 1, none⟩ = some (.int .i64 s)) ∧ w'.cell? ⟨w.heap.size + 1, 0, none⟩ = some (.int .i64 n2) ∧ w'.cell? ⟨w.heap.size + 1, 1, none⟩ = some (.int .i64 s2)) ((go_split_ands; (repeat' apply And.intro) <;> first | assumption | exact keep1 (by assumption) (by assumption) | exact Blk.step (by assumption) (by assumption) | ((repeat' first | (with_reducible first | exact .refl _ _ | assumption | apply balloc | apply Below.drew | apply bset | refine bstep ?_ ‹_› | refine bturn ?_ ‹_› ?_) | go_size))))
     (first
       | (go_at_call_of 107 (Value.agg #[Value.int .i64 n, Value.int .i64 s]); refine (HLa.out _).mono ?_; rintro e w3 ⟨⟨g, rfl, hrow⟩, hb3⟩)
       | (go_at_call_of 107 (Value.agg #[Value.int .i64 n2, Value.int .i64 s2]); refine (HLb.out _).mono ?_; rintro e w4 ⟨⟨g2, rfl, hrow2⟩, hb4⟩)
       | (go_at_call 106; refine (rless_any g 0 60 g2 0 60 60 (N * 10 ^ t) (N2 * 10 ^ t2) _ (by omega) (by first | exact hrow | exact hrow.step (by (repeat' first | (with_reducible first | exact .refl _ _ | assumption | apply balloc | apply Below.drew | apply bset | refine bstep ?_ ‹_› | refine bturn ?_ ‹_› ?_) | go_size))) (by first | exact hrow2 | exact hrow2.step (by (repeat' first | (with_reducible first | exact .refl _ _ | assumption | apply balloc | apply Below.drew | apply bset | refine bstep ?_ ‹_› | refine bturn ?_ ‹_› ?_) | go_size))) HA.out HB.out).mono ?_; rintro e w5 ⟨rfl, hb5⟩))
   all_goals
     go_split_ands
     go_wp2_with fail
     go_meet
     case rel => exact ⟨rfl, by assumption, by assumption, by first | assumption | (repeat' first | (with_reducible first | exact .refl _ _ | assumption | apply balloc | apply Below.drew | apply bset | refine bstep ?_ ‹_› | refine bturn ?_ ‹_› ?_) | go_size)⟩
 case rest =>
   obtain ⟨rfl, k0, k2, hbc⟩ := hcut
   rw [HQ.out]
   have x0 := k0.cell 0
   have x1 := k0.cell 1
   have x2 := k2.cell 0
   have x3 := k2.cell 1
   simp at x0 x1 x2 x3
   clear c0 c1 e2 e3 hb0 hb2 hb hb' hbl
   go_upto_region 12 with fail
   go_cut [45] (fun x wx => x = .bool (decide (N2 * 10 ^ t2 < N * 10 ^ t)) ∧ Blk wx w.heap.size 23 #[.int .i64 n, .int .i64 s] ∧ Blk wx (w.heap.size + 1) 23 #[.int .i64 n2, .int .i64 s2] ∧ Below w.heap.size w wx)
   case first =>
     go_region_held3 (fun w' => (Blk w' w.heap.size 23 #[.int .i64 n, .int .i64 s]) ∧ (Blk w' (w.heap.size + 1) 23 #[.int .i64 n2, .int .i64 s2]) ∧ (Below w.heap.size w w') ∧ (w'.cell? ⟨w.heap.size, 0, none⟩ = some (.int .i64 n) ∧ w'.cell? ⟨w.heap.size, 1, none⟩ = some (.int .i64 s)) ∧ w'.cell? ⟨w.heap.size + 1, 0, none⟩ = some (.int .i64 n2) ∧ w'.cell? ⟨w.heap.size + 1, 1, none⟩ = some (.int .i64 s2)) ((go_split_ands; (repeat' apply And.intro) <;> first | assumption | exact keep1 (by assumption) (by assumption) | exact Blk.step (by assumption) (by assumption) | ((repeat' first | (with_reducible first | exact .refl _ _ | assumption | apply balloc | apply Below.drew | apply bset | refine bstep ?_ ‹_› | refine bturn ?_ ‹_› ?_) | go_size))))
       (first
         | (go_at_call_of 107 (Value.agg #[Value.int .i64 n, Value.int .i64 s]); refine (HLa.out _).mono ?_; rintro e w3 ⟨⟨g, rfl, hrow⟩, hb3⟩)
         | (go_at_call_of 107 (Value.agg #[Value.int .i64 n2, Value.int .i64 s2]); refine (HLb.out _).mono ?_; rintro e w4 ⟨⟨g2, rfl, hrow2⟩, hb4⟩)
         | (go_at_call 106; refine (rless_any g2 0 60 g 0 60 60 (N2 * 10 ^ t2) (N * 10 ^ t) _ (by omega) (by first | exact hrow2 | exact hrow2.step (by (repeat' first | (with_reducible first | exact .refl _ _ | assumption | apply balloc | apply Below.drew | apply bset | refine bstep ?_ ‹_› | refine bturn ?_ ‹_› ?_) | go_size))) (by first | exact hrow | exact hrow.step (by (repeat' first | (with_reducible first | exact .refl _ _ | assumption | apply balloc | apply Below.drew | apply bset | refine bstep ?_ ‹_› | refine bturn ?_ ‹_› ?_) | go_size))) HB.out HA.out).mono ?_; rintro e w5 ⟨rfl, hb5⟩))
     all_goals
       go_split_ands
       go_wp2_with fail
       go_meet
       case rel => exact ⟨rfl, by assumption, by assumption, by first | assumption | (repeat' first | (with_reducible first | exact .refl _ _ | assumption | apply balloc | apply Below.drew | apply bset | refine bstep ?_ ‹_› | refine bturn ?_ ‹_› ?_) | go_size)⟩
   case rest =>
     obtain ⟨rfl, k5, k6, hbc2⟩ := hcut
     rw [HQ2.out]
     clear x0 x1 x2 x3
     go_wp2
     go_returns
     exact ⟨rfl, by first | assumption | (repeat' first | (with_reducible first | exact .refl _ _ | assumption | apply balloc | apply Below.drew | apply bset | refine bstep ?_ ‹_› | refine bturn ?_ ‹_› ?_) | go_size)⟩
set_option maxHeartbeats 4000000 in
theorem rcmp_neq (n s n2 s2 : Int) (N t N2 t2 : Nat) (hn : I64 n) (hs : I64 s) (hn2 : I64 n2) (hs2 : I64 s2) (h1 : soundS n s = true) (h2 : soundS n2 s2 = true) (hN : mag n = (N : Int)) (ht : s = 12 - (t : Int)) (hN2 : mag n2 = (N2 : Int)) (ht2 : s2 = 12 - (t2 : Int)) (t0 : 6 ≤ t) (t1 : t ≤ 12) (t3 : 6 ≤ t2) (t4 : t2 ≤ 12) (hA : N * 10 ^ t < 10 ^ 60) (hB : N2 * 10 ^ t2 < 10 ^ 60) (hL : decide (N * 10 ^ t < N2 * 10 ^ t2) = false) (hL2 : decide (N2 * 10 ^ t2 < N * 10 ^ t) = false) (g0 : n < 0) (g2' : n2 < 0) (w : World) :
   Calls Tryz.prog 69 #[.agg #[.int .i64 n, .int .i64 s], .agg #[.int .i64 n2, .int .i64 s2]] w fun e w' => e = .returned (.tuple #[.int .i64 (0), .int .i64 0]) ∧ Below w.heap.size w w' := by
 have HN : Hid ((I64 n ∧ I64 s) ∧ I64 n2 ∧ I64 s2) := ⟨⟨hn, hs⟩, hn2, hs2⟩
 obtain ⟨b1, b2, b3, b4, _⟩ := sound_bd h1
 obtain ⟨d1, d2, d3, d4, _⟩ := sound_bd h2
 have HLa := Lib.hid (fun w => long_ex n s N t w b3 b4 hN ht t0 t1)
 have HLb := Lib.hid (fun w => long_ex n2 s2 N2 t2 w d3 d4 hN2 ht2 t3 t4)
 have HA := Lib.hid hA
 have HB := Lib.hid hB
 have HQ := Lib.hid hL
 have HQ2 := Lib.hid hL2
 clear hN ht hN2 ht2 hA hB hL hL2 b1 b2 b3 b4 d1 d2 d3 d4
 clear hn hs hn2 hs2
 have hb0 := (Blk.new w 23 #[.int .i64 n, .int .i64 s]).alloc (.cells #[.int .i64 n2, .int .i64 s2] 23)
 have hb2 := Blk.new' (w.alloc (.cells #[.int .i64 n, .int .i64 s] 23)) 23 #[.int .i64 n2, .int .i64 s2] (n := w.heap.size + 1) (by simp)
 go_enter Tryz.func69, Tryz.ntmps69
 go_wp2_with fail
 refine (rsound_any n s HN.out.1.1.1 HN.out.1.1.2 HN.out.1.2.1 HN.out.1.2.2 _).mono ?_
 rintro e w1 ⟨rfl, hb⟩
 replace hb0 := hb0.step hb
 replace hb2 := hb2.step hb
 have e0 := hb2.cell 0
 have e1 := hb2.cell 1
 simp at e0 e1
 go_wp2_with fail
 refine (rsound_any n2 s2 HN.out.2.1.1 HN.out.2.1.2 HN.out.2.2.1 HN.out.2.2.2 _).mono ?_
 rintro e w2 ⟨rfl, hb'⟩
 replace hb0 := hb0.step hb'
 replace hb2 := hb2.step hb'
 have hbl : Below w.heap.size w w2 := by (repeat' first | (with_reducible first | exact .refl _ _ | assumption | apply balloc | apply Below.drew | apply bset | refine bstep ?_ ‹_› | refine bturn ?_ ‹_› ?_) | go_size)
 have c0 := hb0.cell 0
 have c1 := hb0.cell 1
 have e2 := hb2.cell 0
 have e3 := hb2.cell 1
 simp at c0 c1 e2 e3
 clear e0 e1
 go_upto_region 10 with fail
 go_cut [38] (fun x wx => x = .bool (decide (N * 10 ^ t < N2 * 10 ^ t2)) ∧ Blk wx w.heap.size 23 #[.int .i64 n, .int .i64 s] ∧ Blk wx (w.heap.size + 1) 23 #[.int .i64 n2, .int .i64 s2] ∧ Below w.heap.size w wx)
 case first =>
   go_region_held3 (fun w' => (Blk w' w.heap.size 23 #[.int .i64 n, .int .i64 s]) ∧ (Blk w' (w.heap.size + 1) 23 #[.int .i64 n2, .int .i64 s2]) ∧ (Below w.heap.size w w') ∧ (w'.cell? ⟨w.heap.size, 0, none⟩ = some (.int .i64 n) ∧ w'.cell? ⟨w.heap.size, 1, none⟩ = some (.int .i64 s)) ∧ w'.cell? ⟨w.heap.size + 1, 0, none⟩ = some (.int .i64 n2) ∧ w'.cell? ⟨w.heap.size + 1, 1, none⟩ = some (.int .i64 s2)) ((go_split_ands; (repeat' apply And.intro) <;> first | assumption | exact keep1 (by assumption) (by assumption) | exact Blk.step (by assumption) (by assumption) | ((repeat' first | (with_reducible first | exact .refl _ _ | assumption | apply balloc | apply Below.drew | apply bset | refine bstep ?_ ‹_› | refine bturn ?_ ‹_› ?_) | go_size))))
     (first
       | (go_at_call_of 107 (Value.agg #[Value.int .i64 n, Value.int .i64 s]); refine (HLa.out _).mono ?_; rintro e w3 ⟨⟨g, rfl, hrow⟩, hb3⟩)
       | (go_at_call_of 107 (Value.agg #[Value.int .i64 n2, Value.int .i64 s2]); refine (HLb.out _).mono ?_; rintro e w4 ⟨⟨g2, rfl, hrow2⟩, hb4⟩)
       | (go_at_call 106; refine (rless_any g 0 60 g2 0 60 60 (N * 10 ^ t) (N2 * 10 ^ t2) _ (by omega) (by first | exact hrow | exact hrow.step (by (repeat' first | (with_reducible first | exact .refl _ _ | assumption | apply balloc | apply Below.drew | apply bset | refine bstep ?_ ‹_› | refine bturn ?_ ‹_› ?_) | go_size))) (by first | exact hrow2 | exact hrow2.step (by (repeat' first | (with_reducible first | exact .refl _ _ | assumption | apply balloc | apply Below.drew | apply bset | refine bstep ?_ ‹_› | refine bturn ?_ ‹_› ?_) | go_size))) HA.out HB.out).mono ?_; rintro e w5 ⟨rfl, hb5⟩))
   all_goals
     go_split_ands
     go_wp2_with fail
     go_meet
     case rel => exact ⟨rfl, by assumption, by assumption, by first | assumption | (repeat' first | (with_reducible first | exact .refl _ _ | assumption | apply balloc | apply Below.drew | apply bset | refine bstep ?_ ‹_› | refine bturn ?_ ‹_› ?_) | go_size)⟩
 case rest =>
   obtain ⟨rfl, k0, k2, hbc⟩ := hcut
   rw [HQ.out]
   have x0 := k0.cell 0
   have x1 := k0.cell 1
   have x2 := k2.cell 0
   have x3 := k2.cell 1
   simp at x0 x1 x2 x3
   clear c0 c1 e2 e3 hb0 hb2 hb hb' hbl
   go_upto_region 12 with fail
   go_cut [45] (fun x wx => x = .bool (decide (N2 * 10 ^ t2 < N * 10 ^ t)) ∧ Blk wx w.heap.size 23 #[.int .i64 n, .int .i64 s] ∧ Blk wx (w.heap.size + 1) 23 #[.int .i64 n2, .int .i64 s2] ∧ Below w.heap.size w wx)
   case first =>
     go_region_held3 (fun w' => (Blk w' w.heap.size 23 #[.int .i64 n, .int .i64 s]) ∧ (Blk w' (w.heap.size + 1) 23 #[.int .i64 n2, .int .i64 s2]) ∧ (Below w.heap.size w w') ∧ (w'.cell? ⟨w.heap.size, 0, none⟩ = some (.int .i64 n) ∧ w'.cell? ⟨w.heap.size, 1, none⟩ = some (.int .i64 s)) ∧ w'.cell? ⟨w.heap.size + 1, 0, none⟩ = some (.int .i64 n2) ∧ w'.cell? ⟨w.heap.size + 1, 1, none⟩ = some (.int .i64 s2)) ((go_split_ands; (repeat' apply And.intro) <;> first | assumption | exact keep1 (by assumption) (by assumption) | exact Blk.step (by assumption) (by assumption) | ((repeat' first | (with_reducible first | exact .refl _ _ | assumption | apply balloc | apply Below.drew | apply bset | refine bstep ?_ ‹_› | refine bturn ?_ ‹_› ?_) | go_size))))
       (first
         | (go_at_call_of 107 (Value.agg #[Value.int .i64 n, Value.int .i64 s]); refine (HLa.out _).mono ?_; rintro e w3 ⟨⟨g, rfl, hrow⟩, hb3⟩)
         | (go_at_call_of 107 (Value.agg #[Value.int .i64 n2, Value.int .i64 s2]); refine (HLb.out _).mono ?_; rintro e w4 ⟨⟨g2, rfl, hrow2⟩, hb4⟩)
         | (go_at_call 106; refine (rless_any g2 0 60 g 0 60 60 (N2 * 10 ^ t2) (N * 10 ^ t) _ (by omega) (by first | exact hrow2 | exact hrow2.step (by (repeat' first | (with_reducible first | exact .refl _ _ | assumption | apply balloc | apply Below.drew | apply bset | refine bstep ?_ ‹_› | refine bturn ?_ ‹_› ?_) | go_size))) (by first | exact hrow | exact hrow.step (by (repeat' first | (with_reducible first | exact .refl _ _ | assumption | apply balloc | apply Below.drew | apply bset | refine bstep ?_ ‹_› | refine bturn ?_ ‹_› ?_) | go_size))) HB.out HA.out).mono ?_; rintro e w5 ⟨rfl, hb5⟩))
     all_goals
       go_split_ands
       go_wp2_with fail
       go_meet
       case rel => exact ⟨rfl, by assumption, by assumption, by first | assumption | (repeat' first | (with_reducible first | exact .refl _ _ | assumption | apply balloc | apply Below.drew | apply bset | refine bstep ?_ ‹_› | refine bturn ?_ ‹_› ?_) | go_size)⟩
   case rest =>
     obtain ⟨rfl, k5, k6, hbc2⟩ := hcut
     rw [HQ2.out]
     clear x0 x1 x2 x3
     go_wp2
     go_returns
     exact ⟨rfl, by first | assumption | (repeat' first | (with_reducible first | exact .refl _ _ | assumption | apply balloc | apply Below.drew | apply bset | refine bstep ?_ ‹_› | refine bturn ?_ ‹_› ?_) | go_size)⟩
set_option maxHeartbeats 4000000 in
theorem rcmp_plt (n s n2 s2 : Int) (N t N2 t2 : Nat) (hn : I64 n) (hs : I64 s) (hn2 : I64 n2) (hs2 : I64 s2) (h1 : soundS n s = true) (h2 : soundS n2 s2 = true) (hN : mag n = (N : Int)) (ht : s = 12 - (t : Int)) (hN2 : mag n2 = (N2 : Int)) (ht2 : s2 = 12 - (t2 : Int)) (t0 : 6 ≤ t) (t1 : t ≤ 12) (t3 : 6 ≤ t2) (t4 : t2 ≤ 12) (hA : N * 10 ^ t < 10 ^ 60) (hB : N2 * 10 ^ t2 < 10 ^ 60) (hL : decide (N * 10 ^ t < N2 * 10 ^ t2) = true) (hL2 : decide (N2 * 10 ^ t2 < N * 10 ^ t) = false) (g0 : 0 ≤ n) (g2' : 0 ≤ n2) (w : World) :
   Calls Tryz.prog 69 #[.agg #[.int .i64 n, .int .i64 s], .agg #[.int .i64 n2, .int .i64 s2]] w fun e w' => e = .returned (.tuple #[.int .i64 (-1), .int .i64 0]) ∧ Below w.heap.size w w' := by
 have HN : Hid ((I64 n ∧ I64 s) ∧ I64 n2 ∧ I64 s2) := ⟨⟨hn, hs⟩, hn2, hs2⟩
 obtain ⟨b1, b2, b3, b4, _⟩ := sound_bd h1
 obtain ⟨d1, d2, d3, d4, _⟩ := sound_bd h2
 have HLa := Lib.hid (fun w => long_ex n s N t w b3 b4 hN ht t0 t1)
 have HLb := Lib.hid (fun w => long_ex n2 s2 N2 t2 w d3 d4 hN2 ht2 t3 t4)
 have HA := Lib.hid hA
 have HB := Lib.hid hB
 have HQ := Lib.hid hL
 have HQ2 := Lib.hid hL2
 clear hN ht hN2 ht2 hA hB hL hL2 b1 b2 b3 b4 d1 d2 d3 d4
 clear hn hs hn2 hs2
 have hb0 := (Blk.new w 23 #[.int .i64 n, .int .i64 s]).alloc (.cells #[.int .i64 n2, .int .i64 s2] 23)
 have hb2 := Blk.new' (w.alloc (.cells #[.int .i64 n, .int .i64 s] 23)) 23 #[.int .i64 n2, .int .i64 s2] (n := w.heap.size + 1) (by simp)
 go_enter Tryz.func69, Tryz.ntmps69
 go_wp2_with fail
 refine (rsound_any n s HN.out.1.1.1 HN.out.1.1.2 HN.out.1.2.1 HN.out.1.2.2 _).mono ?_
 rintro e w1 ⟨rfl, hb⟩
 replace hb0 := hb0.step hb
 replace hb2 := hb2.step hb
 have e0 := hb2.cell 0
 have e1 := hb2.cell 1
 simp at e0 e1
 go_wp2_with fail
 refine (rsound_any n2 s2 HN.out.2.1.1 HN.out.2.1.2 HN.out.2.2.1 HN.out.2.2.2 _).mono ?_
 rintro e w2 ⟨rfl, hb'⟩
 replace hb0 := hb0.step hb'
 replace hb2 := hb2.step hb'
 have hbl : Below w.heap.size w w2 := by (repeat' first | (with_reducible first | exact .refl _ _ | assumption | apply balloc | apply Below.drew | apply bset | refine bstep ?_ ‹_› | refine bturn ?_ ‹_› ?_) | go_size)
 have c0 := hb0.cell 0
 have c1 := hb0.cell 1
 have e2 := hb2.cell 0
 have e3 := hb2.cell 1
 simp at c0 c1 e2 e3
 clear e0 e1
 go_upto_region 10 with fail
 go_cut [38] (fun x wx => x = .bool (decide (N * 10 ^ t < N2 * 10 ^ t2)) ∧ Blk wx w.heap.size 23 #[.int .i64 n, .int .i64 s] ∧ Blk wx (w.heap.size + 1) 23 #[.int .i64 n2, .int .i64 s2] ∧ Below w.heap.size w wx)
 case first =>
   go_region_held3 (fun w' => (Blk w' w.heap.size 23 #[.int .i64 n, .int .i64 s]) ∧ (Blk w' (w.heap.size + 1) 23 #[.int .i64 n2, .int .i64 s2]) ∧ (Below w.heap.size w w') ∧ (w'.cell? ⟨w.heap.size, 0, none⟩ = some (.int .i64 n) ∧ w'.cell? ⟨w.heap.size, 1, none⟩ = some (.int .i64 s)) ∧ w'.cell? ⟨w.heap.size + 1, 0, none⟩ = some (.int .i64 n2) ∧ w'.cell? ⟨w.heap.size + 1, 1, none⟩ = some (.int .i64 s2)) ((go_split_ands; (repeat' apply And.intro) <;> first | assumption | exact keep1 (by assumption) (by assumption) | exact Blk.step (by assumption) (by assumption) | ((repeat' first | (with_reducible first | exact .refl _ _ | assumption | apply balloc | apply Below.drew | apply bset | refine bstep ?_ ‹_› | refine bturn ?_ ‹_› ?_) | go_size))))
     (first
       | (go_at_call_of 107 (Value.agg #[Value.int .i64 n, Value.int .i64 s]); refine (HLa.out _).mono ?_; rintro e w3 ⟨⟨g, rfl, hrow⟩, hb3⟩)
       | (go_at_call_of 107 (Value.agg #[Value.int .i64 n2, Value.int .i64 s2]); refine (HLb.out _).mono ?_; rintro e w4 ⟨⟨g2, rfl, hrow2⟩, hb4⟩)
       | (go_at_call 106; refine (rless_any g 0 60 g2 0 60 60 (N * 10 ^ t) (N2 * 10 ^ t2) _ (by omega) (by first | exact hrow | exact hrow.step (by (repeat' first | (with_reducible first | exact .refl _ _ | assumption | apply balloc | apply Below.drew | apply bset | refine bstep ?_ ‹_› | refine bturn ?_ ‹_› ?_) | go_size))) (by first | exact hrow2 | exact hrow2.step (by (repeat' first | (with_reducible first | exact .refl _ _ | assumption | apply balloc | apply Below.drew | apply bset | refine bstep ?_ ‹_› | refine bturn ?_ ‹_› ?_) | go_size))) HA.out HB.out).mono ?_; rintro e w5 ⟨rfl, hb5⟩))
   all_goals
     go_split_ands
     go_wp2_with fail
     go_meet
     case rel => exact ⟨rfl, by assumption, by assumption, by first | assumption | (repeat' first | (with_reducible first | exact .refl _ _ | assumption | apply balloc | apply Below.drew | apply bset | refine bstep ?_ ‹_› | refine bturn ?_ ‹_› ?_) | go_size)⟩
 case rest =>
   obtain ⟨rfl, k0, k2, hbc⟩ := hcut
   rw [HQ.out]
   have x0 := k0.cell 0
   have x1 := k0.cell 1
   have x2 := k2.cell 0
   have x3 := k2.cell 1
   simp at x0 x1 x2 x3
   clear c0 c1 e2 e3 hb0 hb2 hb hb' hbl
   go_wp2
   go_returns
   exact ⟨rfl, by first | assumption | (repeat' first | (with_reducible first | exact .refl _ _ | assumption | apply balloc | apply Below.drew | apply bset | refine bstep ?_ ‹_› | refine bturn ?_ ‹_› ?_) | go_size)⟩
set_option maxHeartbeats 4000000 in
theorem rcmp_pgt (n s n2 s2 : Int) (N t N2 t2 : Nat) (hn : I64 n) (hs : I64 s) (hn2 : I64 n2) (hs2 : I64 s2) (h1 : soundS n s = true) (h2 : soundS n2 s2 = true) (hN : mag n = (N : Int)) (ht : s = 12 - (t : Int)) (hN2 : mag n2 = (N2 : Int)) (ht2 : s2 = 12 - (t2 : Int)) (t0 : 6 ≤ t) (t1 : t ≤ 12) (t3 : 6 ≤ t2) (t4 : t2 ≤ 12) (hA : N * 10 ^ t < 10 ^ 60) (hB : N2 * 10 ^ t2 < 10 ^ 60) (hL : decide (N * 10 ^ t < N2 * 10 ^ t2) = false) (hL2 : decide (N2 * 10 ^ t2 < N * 10 ^ t) = true) (g0 : 0 ≤ n) (g2' : 0 ≤ n2) (w : World) :
   Calls Tryz.prog 69 #[.agg #[.int .i64 n, .int .i64 s], .agg #[.int .i64 n2, .int .i64 s2]] w fun e w' => e = .returned (.tuple #[.int .i64 (1), .int .i64 0]) ∧ Below w.heap.size w w' := by
 have HN : Hid ((I64 n ∧ I64 s) ∧ I64 n2 ∧ I64 s2) := ⟨⟨hn, hs⟩, hn2, hs2⟩
 obtain ⟨b1, b2, b3, b4, _⟩ := sound_bd h1
 obtain ⟨d1, d2, d3, d4, _⟩ := sound_bd h2
 have HLa := Lib.hid (fun w => long_ex n s N t w b3 b4 hN ht t0 t1)
 have HLb := Lib.hid (fun w => long_ex n2 s2 N2 t2 w d3 d4 hN2 ht2 t3 t4)
 have HA := Lib.hid hA
 have HB := Lib.hid hB
 have HQ := Lib.hid hL
 have HQ2 := Lib.hid hL2
 clear hN ht hN2 ht2 hA hB hL hL2 b1 b2 b3 b4 d1 d2 d3 d4
 clear hn hs hn2 hs2
 have hb0 := (Blk.new w 23 #[.int .i64 n, .int .i64 s]).alloc (.cells #[.int .i64 n2, .int .i64 s2] 23)
 have hb2 := Blk.new' (w.alloc (.cells #[.int .i64 n, .int .i64 s] 23)) 23 #[.int .i64 n2, .int .i64 s2] (n := w.heap.size + 1) (by simp)
 go_enter Tryz.func69, Tryz.ntmps69
 go_wp2_with fail
 refine (rsound_any n s HN.out.1.1.1 HN.out.1.1.2 HN.out.1.2.1 HN.out.1.2.2 _).mono ?_
 rintro e w1 ⟨rfl, hb⟩
 replace hb0 := hb0.step hb
 replace hb2 := hb2.step hb
 have e0 := hb2.cell 0
 have e1 := hb2.cell 1
 simp at e0 e1
 go_wp2_with fail
 refine (rsound_any n2 s2 HN.out.2.1.1 HN.out.2.1.2 HN.out.2.2.1 HN.out.2.2.2 _).mono ?_
 rintro e w2 ⟨rfl, hb'⟩
 replace hb0 := hb0.step hb'
 replace hb2 := hb2.step hb'
 have hbl : Below w.heap.size w w2 := by (repeat' first | (with_reducible first | exact .refl _ _ | assumption | apply balloc | apply Below.drew | apply bset | refine bstep ?_ ‹_› | refine bturn ?_ ‹_› ?_) | go_size)
 have c0 := hb0.cell 0
 have c1 := hb0.cell 1
 have e2 := hb2.cell 0
 have e3 := hb2.cell 1
 simp at c0 c1 e2 e3
 clear e0 e1
 go_upto_region 10 with fail
 go_cut [38] (fun x wx => x = .bool (decide (N * 10 ^ t < N2 * 10 ^ t2)) ∧ Blk wx w.heap.size 23 #[.int .i64 n, .int .i64 s] ∧ Blk wx (w.heap.size + 1) 23 #[.int .i64 n2, .int .i64 s2] ∧ Below w.heap.size w wx)
 case first =>
   go_region_held3 (fun w' => (Blk w' w.heap.size 23 #[.int .i64 n, .int .i64 s]) ∧ (Blk w' (w.heap.size + 1) 23 #[.int .i64 n2, .int .i64 s2]) ∧ (Below w.heap.size w w') ∧ (w'.cell? ⟨w.heap.size, 0, none⟩ = some (.int .i64 n) ∧ w'.cell? ⟨w.heap.size, 1, none⟩ = some (.int .i64 s)) ∧ w'.cell? ⟨w.heap.size + 1, 0, none⟩ = some (.int .i64 n2) ∧ w'.cell? ⟨w.heap.size + 1, 1, none⟩ = some (.int .i64 s2)) ((go_split_ands; (repeat' apply And.intro) <;> first | assumption | exact keep1 (by assumption) (by assumption) | exact Blk.step (by assumption) (by assumption) | ((repeat' first | (with_reducible first | exact .refl _ _ | assumption | apply balloc | apply Below.drew | apply bset | refine bstep ?_ ‹_› | refine bturn ?_ ‹_› ?_) | go_size))))
     (first
       | (go_at_call_of 107 (Value.agg #[Value.int .i64 n, Value.int .i64 s]); refine (HLa.out _).mono ?_; rintro e w3 ⟨⟨g, rfl, hrow⟩, hb3⟩)
       | (go_at_call_of 107 (Value.agg #[Value.int .i64 n2, Value.int .i64 s2]); refine (HLb.out _).mono ?_; rintro e w4 ⟨⟨g2, rfl, hrow2⟩, hb4⟩)
       | (go_at_call 106; refine (rless_any g 0 60 g2 0 60 60 (N * 10 ^ t) (N2 * 10 ^ t2) _ (by omega) (by first | exact hrow | exact hrow.step (by (repeat' first | (with_reducible first | exact .refl _ _ | assumption | apply balloc | apply Below.drew | apply bset | refine bstep ?_ ‹_› | refine bturn ?_ ‹_› ?_) | go_size))) (by first | exact hrow2 | exact hrow2.step (by (repeat' first | (with_reducible first | exact .refl _ _ | assumption | apply balloc | apply Below.drew | apply bset | refine bstep ?_ ‹_› | refine bturn ?_ ‹_› ?_) | go_size))) HA.out HB.out).mono ?_; rintro e w5 ⟨rfl, hb5⟩))
   all_goals
     go_split_ands
     go_wp2_with fail
     go_meet
     case rel => exact ⟨rfl, by assumption, by assumption, by first | assumption | (repeat' first | (with_reducible first | exact .refl _ _ | assumption | apply balloc | apply Below.drew | apply bset | refine bstep ?_ ‹_› | refine bturn ?_ ‹_› ?_) | go_size)⟩
 case rest =>
   obtain ⟨rfl, k0, k2, hbc⟩ := hcut
   rw [HQ.out]
   have x0 := k0.cell 0
   have x1 := k0.cell 1
   have x2 := k2.cell 0
   have x3 := k2.cell 1
   simp at x0 x1 x2 x3
   clear c0 c1 e2 e3 hb0 hb2 hb hb' hbl
   go_upto_region 12 with fail
   go_cut [45] (fun x wx => x = .bool (decide (N2 * 10 ^ t2 < N * 10 ^ t)) ∧ Blk wx w.heap.size 23 #[.int .i64 n, .int .i64 s] ∧ Blk wx (w.heap.size + 1) 23 #[.int .i64 n2, .int .i64 s2] ∧ Below w.heap.size w wx)
   case first =>
     go_region_held3 (fun w' => (Blk w' w.heap.size 23 #[.int .i64 n, .int .i64 s]) ∧ (Blk w' (w.heap.size + 1) 23 #[.int .i64 n2, .int .i64 s2]) ∧ (Below w.heap.size w w') ∧ (w'.cell? ⟨w.heap.size, 0, none⟩ = some (.int .i64 n) ∧ w'.cell? ⟨w.heap.size, 1, none⟩ = some (.int .i64 s)) ∧ w'.cell? ⟨w.heap.size + 1, 0, none⟩ = some (.int .i64 n2) ∧ w'.cell? ⟨w.heap.size + 1, 1, none⟩ = some (.int .i64 s2)) ((go_split_ands; (repeat' apply And.intro) <;> first | assumption | exact keep1 (by assumption) (by assumption) | exact Blk.step (by assumption) (by assumption) | ((repeat' first | (with_reducible first | exact .refl _ _ | assumption | apply balloc | apply Below.drew | apply bset | refine bstep ?_ ‹_› | refine bturn ?_ ‹_› ?_) | go_size))))
       (first
         | (go_at_call_of 107 (Value.agg #[Value.int .i64 n, Value.int .i64 s]); refine (HLa.out _).mono ?_; rintro e w3 ⟨⟨g, rfl, hrow⟩, hb3⟩)
         | (go_at_call_of 107 (Value.agg #[Value.int .i64 n2, Value.int .i64 s2]); refine (HLb.out _).mono ?_; rintro e w4 ⟨⟨g2, rfl, hrow2⟩, hb4⟩)
         | (go_at_call 106; refine (rless_any g2 0 60 g 0 60 60 (N2 * 10 ^ t2) (N * 10 ^ t) _ (by omega) (by first | exact hrow2 | exact hrow2.step (by (repeat' first | (with_reducible first | exact .refl _ _ | assumption | apply balloc | apply Below.drew | apply bset | refine bstep ?_ ‹_› | refine bturn ?_ ‹_› ?_) | go_size))) (by first | exact hrow | exact hrow.step (by (repeat' first | (with_reducible first | exact .refl _ _ | assumption | apply balloc | apply Below.drew | apply bset | refine bstep ?_ ‹_› | refine bturn ?_ ‹_› ?_) | go_size))) HB.out HA.out).mono ?_; rintro e w5 ⟨rfl, hb5⟩))
     all_goals
       go_split_ands
       go_wp2_with fail
       go_meet
       case rel => exact ⟨rfl, by assumption, by assumption, by first | assumption | (repeat' first | (with_reducible first | exact .refl _ _ | assumption | apply balloc | apply Below.drew | apply bset | refine bstep ?_ ‹_› | refine bturn ?_ ‹_› ?_) | go_size)⟩
   case rest =>
     obtain ⟨rfl, k5, k6, hbc2⟩ := hcut
     rw [HQ2.out]
     clear x0 x1 x2 x3
     go_wp2
     go_returns
     exact ⟨rfl, by first | assumption | (repeat' first | (with_reducible first | exact .refl _ _ | assumption | apply balloc | apply Below.drew | apply bset | refine bstep ?_ ‹_› | refine bturn ?_ ‹_› ?_) | go_size)⟩
set_option maxHeartbeats 4000000 in
theorem rcmp_peq (n s n2 s2 : Int) (N t N2 t2 : Nat) (hn : I64 n) (hs : I64 s) (hn2 : I64 n2) (hs2 : I64 s2) (h1 : soundS n s = true) (h2 : soundS n2 s2 = true) (hN : mag n = (N : Int)) (ht : s = 12 - (t : Int)) (hN2 : mag n2 = (N2 : Int)) (ht2 : s2 = 12 - (t2 : Int)) (t0 : 6 ≤ t) (t1 : t ≤ 12) (t3 : 6 ≤ t2) (t4 : t2 ≤ 12) (hA : N * 10 ^ t < 10 ^ 60) (hB : N2 * 10 ^ t2 < 10 ^ 60) (hL : decide (N * 10 ^ t < N2 * 10 ^ t2) = false) (hL2 : decide (N2 * 10 ^ t2 < N * 10 ^ t) = false) (g0 : 0 ≤ n) (g2' : 0 ≤ n2) (w : World) :
   Calls Tryz.prog 69 #[.agg #[.int .i64 n, .int .i64 s], .agg #[.int .i64 n2, .int .i64 s2]] w fun e w' => e = .returned (.tuple #[.int .i64 (0), .int .i64 0]) ∧ Below w.heap.size w w' := by
 have HN : Hid ((I64 n ∧ I64 s) ∧ I64 n2 ∧ I64 s2) := ⟨⟨hn, hs⟩, hn2, hs2⟩
 obtain ⟨b1, b2, b3, b4, _⟩ := sound_bd h1
 obtain ⟨d1, d2, d3, d4, _⟩ := sound_bd h2
 have HLa := Lib.hid (fun w => long_ex n s N t w b3 b4 hN ht t0 t1)
 have HLb := Lib.hid (fun w => long_ex n2 s2 N2 t2 w d3 d4 hN2 ht2 t3 t4)
 have HA := Lib.hid hA
 have HB := Lib.hid hB
 have HQ := Lib.hid hL
 have HQ2 := Lib.hid hL2
 clear hN ht hN2 ht2 hA hB hL hL2 b1 b2 b3 b4 d1 d2 d3 d4
 clear hn hs hn2 hs2
 have hb0 := (Blk.new w 23 #[.int .i64 n, .int .i64 s]).alloc (.cells #[.int .i64 n2, .int .i64 s2] 23)
 have hb2 := Blk.new' (w.alloc (.cells #[.int .i64 n, .int .i64 s] 23)) 23 #[.int .i64 n2, .int .i64 s2] (n := w.heap.size + 1) (by simp)
 go_enter Tryz.func69, Tryz.ntmps69
 go_wp2_with fail
 refine (rsound_any n s HN.out.1.1.1 HN.out.1.1.2 HN.out.1.2.1 HN.out.1.2.2 _).mono ?_
 rintro e w1 ⟨rfl, hb⟩
 replace hb0 := hb0.step hb
 replace hb2 := hb2.step hb
 have e0 := hb2.cell 0
 have e1 := hb2.cell 1
 simp at e0 e1
 go_wp2_with fail
 refine (rsound_any n2 s2 HN.out.2.1.1 HN.out.2.1.2 HN.out.2.2.1 HN.out.2.2.2 _).mono ?_
 rintro e w2 ⟨rfl, hb'⟩
 replace hb0 := hb0.step hb'
 replace hb2 := hb2.step hb'
 have hbl : Below w.heap.size w w2 := by (repeat' first | (with_reducible first | exact .refl _ _ | assumption | apply balloc | apply Below.drew | apply bset | refine bstep ?_ ‹_› | refine bturn ?_ ‹_› ?_) | go_size)
 have c0 := hb0.cell 0
 have c1 := hb0.cell 1
 have e2 := hb2.cell 0
 have e3 := hb2.cell 1
 simp at c0 c1 e2 e3
 clear e0 e1
 go_upto_region 10 with fail
 go_cut [38] (fun x wx => x = .bool (decide (N * 10 ^ t < N2 * 10 ^ t2)) ∧ Blk wx w.heap.size 23 #[.int .i64 n, .int .i64 s] ∧ Blk wx (w.heap.size + 1) 23 #[.int .i64 n2, .int .i64 s2] ∧ Below w.heap.size w wx)
 case first =>
   go_region_held3 (fun w' => (Blk w' w.heap.size 23 #[.int .i64 n, .int .i64 s]) ∧ (Blk w' (w.heap.size + 1) 23 #[.int .i64 n2, .int .i64 s2]) ∧ (Below w.heap.size w w') ∧ (w'.cell? ⟨w.heap.size, 0, none⟩ = some (.int .i64 n) ∧ w'.cell? ⟨w.heap.size, 1, none⟩ = some (.int .i64 s)) ∧ w'.cell? ⟨w.heap.size + 1, 0, none⟩ = some (.int .i64 n2) ∧ w'.cell? ⟨w.heap.size + 1, 1, none⟩ = some (.int .i64 s2)) ((go_split_ands; (repeat' apply And.intro) <;> first | assumption | exact keep1 (by assumption) (by assumption) | exact Blk.step (by assumption) (by assumption) | ((repeat' first | (with_reducible first | exact .refl _ _ | assumption | apply balloc | apply Below.drew | apply bset | refine bstep ?_ ‹_› | refine bturn ?_ ‹_› ?_) | go_size))))
     (first
       | (go_at_call_of 107 (Value.agg #[Value.int .i64 n, Value.int .i64 s]); refine (HLa.out _).mono ?_; rintro e w3 ⟨⟨g, rfl, hrow⟩, hb3⟩)
       | (go_at_call_of 107 (Value.agg #[Value.int .i64 n2, Value.int .i64 s2]); refine (HLb.out _).mono ?_; rintro e w4 ⟨⟨g2, rfl, hrow2⟩, hb4⟩)
       | (go_at_call 106; refine (rless_any g 0 60 g2 0 60 60 (N * 10 ^ t) (N2 * 10 ^ t2) _ (by omega) (by first | exact hrow | exact hrow.step (by (repeat' first | (with_reducible first | exact .refl _ _ | assumption | apply balloc | apply Below.drew | apply bset | refine bstep ?_ ‹_› | refine bturn ?_ ‹_› ?_) | go_size))) (by first | exact hrow2 | exact hrow2.step (by (repeat' first | (with_reducible first | exact .refl _ _ | assumption | apply balloc | apply Below.drew | apply bset | refine bstep ?_ ‹_› | refine bturn ?_ ‹_› ?_) | go_size))) HA.out HB.out).mono ?_; rintro e w5 ⟨rfl, hb5⟩))
   all_goals
     go_split_ands
     go_wp2_with fail
     go_meet
     case rel => exact ⟨rfl, by assumption, by assumption, by first | assumption | (repeat' first | (with_reducible first | exact .refl _ _ | assumption | apply balloc | apply Below.drew | apply bset | refine bstep ?_ ‹_› | refine bturn ?_ ‹_› ?_) | go_size)⟩
 case rest =>
   obtain ⟨rfl, k0, k2, hbc⟩ := hcut
   rw [HQ.out]
   have x0 := k0.cell 0
   have x1 := k0.cell 1
   have x2 := k2.cell 0
   have x3 := k2.cell 1
   simp at x0 x1 x2 x3
   clear c0 c1 e2 e3 hb0 hb2 hb hb' hbl
   go_upto_region 12 with fail
   go_cut [45] (fun x wx => x = .bool (decide (N2 * 10 ^ t2 < N * 10 ^ t)) ∧ Blk wx w.heap.size 23 #[.int .i64 n, .int .i64 s] ∧ Blk wx (w.heap.size + 1) 23 #[.int .i64 n2, .int .i64 s2] ∧ Below w.heap.size w wx)
   case first =>
     go_region_held3 (fun w' => (Blk w' w.heap.size 23 #[.int .i64 n, .int .i64 s]) ∧ (Blk w' (w.heap.size + 1) 23 #[.int .i64 n2, .int .i64 s2]) ∧ (Below w.heap.size w w') ∧ (w'.cell? ⟨w.heap.size, 0, none⟩ = some (.int .i64 n) ∧ w'.cell? ⟨w.heap.size, 1, none⟩ = some (.int .i64 s)) ∧ w'.cell? ⟨w.heap.size + 1, 0, none⟩ = some (.int .i64 n2) ∧ w'.cell? ⟨w.heap.size + 1, 1, none⟩ = some (.int .i64 s2)) ((go_split_ands; (repeat' apply And.intro) <;> first | assumption | exact keep1 (by assumption) (by assumption) | exact Blk.step (by assumption) (by assumption) | ((repeat' first | (with_reducible first | exact .refl _ _ | assumption | apply balloc | apply Below.drew | apply bset | refine bstep ?_ ‹_› | refine bturn ?_ ‹_› ?_) | go_size))))
       (first
         | (go_at_call_of 107 (Value.agg #[Value.int .i64 n, Value.int .i64 s]); refine (HLa.out _).mono ?_; rintro e w3 ⟨⟨g, rfl, hrow⟩, hb3⟩)
         | (go_at_call_of 107 (Value.agg #[Value.int .i64 n2, Value.int .i64 s2]); refine (HLb.out _).mono ?_; rintro e w4 ⟨⟨g2, rfl, hrow2⟩, hb4⟩)
         | (go_at_call 106; refine (rless_any g2 0 60 g 0 60 60 (N2 * 10 ^ t2) (N * 10 ^ t) _ (by omega) (by first | exact hrow2 | exact hrow2.step (by (repeat' first | (with_reducible first | exact .refl _ _ | assumption | apply balloc | apply Below.drew | apply bset | refine bstep ?_ ‹_› | refine bturn ?_ ‹_› ?_) | go_size))) (by first | exact hrow | exact hrow.step (by (repeat' first | (with_reducible first | exact .refl _ _ | assumption | apply balloc | apply Below.drew | apply bset | refine bstep ?_ ‹_› | refine bturn ?_ ‹_› ?_) | go_size))) HB.out HA.out).mono ?_; rintro e w5 ⟨rfl, hb5⟩))
     all_goals
       go_split_ands
       go_wp2_with fail
       go_meet
       case rel => exact ⟨rfl, by assumption, by assumption, by first | assumption | (repeat' first | (with_reducible first | exact .refl _ _ | assumption | apply balloc | apply Below.drew | apply bset | refine bstep ?_ ‹_› | refine bturn ?_ ‹_› ?_) | go_size)⟩
   case rest =>
     obtain ⟨rfl, k5, k6, hbc2⟩ := hcut
     rw [HQ2.out]
     clear x0 x1 x2 x3
     go_wp2
     go_returns
     exact ⟨rfl, by first | assumption | (repeat' first | (with_reducible first | exact .refl _ _ | assumption | apply balloc | apply Below.drew | apply bset | refine bstep ?_ ‹_› | refine bturn ?_ ‹_› ?_) | go_size)⟩
end Go.Proofs.YtapilekangmcoaaGreatDoor.Dq
