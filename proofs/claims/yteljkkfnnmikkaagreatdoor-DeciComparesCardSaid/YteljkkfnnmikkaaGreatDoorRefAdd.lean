/- The walk of the reference's Add. -/
import Derived.Test.YteljkkfnnmikkaaGreatDoorRefDecH
import Derived.Test.YteljkkfnnmikkaaGreatDoorRowsZ
import Derived.Deep.DeepCutAuto
namespace Go.Proofs.YteljkkfnnmikkaaGreatDoor
open Go.RowKit
attribute [local go_sem high] run_dec_eql run_dec_neq

theorem rdec_12 (g o c X Z : Nat) (below : Bool) (w : World) (hX : X < 10 ^ 40) (h : Row w g o 60 X) (hc : 60 ≤ c) (hZ : X = Z * 1000000) :
    Calls Tryz.prog 16 #[.slice (some ⟨g, o, none⟩) 60 c, .int .i64 12, .bool below] w fun e w' => e = .returned (.tuple #[.agg #[.int .i64 (decS 6 Z below).n, .int .i64 (decS 6 Z below).s], .int .i64 (decS 6 Z below).e]) ∧ Below w.heap.size w w' := by
  have he : even10 X 6 = Z := by
    unfold even10
    rw [show (10 : Nat) ^ 6 = 1000000 by decide, hZ, Nat.mul_mod_left, Nat.mul_div_cancel _ (by decide)]
    simp
  have := rdec_high g o c X 5 below w hX (by decide) h hc
  rw [show 5 + 1 = 6 from rfl, he] at this
  exact this
theorem long_ex (n s : Int) (N t : Nat) (w : World) (b3 : -999999999999 ≤ n) (b4 : n ≤ 999999999999) (hN : mag n = (N : Int)) (hs : s = 12 - (t : Int)) (t0 : 6 ≤ t) (t1 : t ≤ 12) :
    Calls Tryz.prog 15 #[.agg #[.int .i64 n, .int .i64 s]] w fun e w' => (∃ g, e = .returned (.slice (some ⟨g, 0, none⟩) 60 60) ∧ Row w' g 0 60 (N * 10 ^ t)) ∧ Below w.heap.size w w' := by
  refine (long_at n s N t w b3 b4 hN hs t0 t1 _ rfl).mono ?_
  rintro e w' ⟨rfl, hB, hb⟩
  exact ⟨⟨_, rfl, Row.of_blk hB⟩, hb⟩

theorem radd_form (n s n2 s2 : Int) (hn : I64 n) (hs : I64 s) (hn2 : I64 n2) (hs2 : I64 s2) (h : ¬ (soundS n s && soundS n2 s2) = true) (w : World) :
    Calls Tryz.prog 6 #[.agg #[.int .i64 n, .int .i64 s], .agg #[.int .i64 n2, .int .i64 s2]] w fun e w' => e = .returned (.tuple #[.agg #[.int .i64 0, .int .i64 0], .int .i64 2]) ∧ Below w.heap.size w w' := by
  have HN : Hid ((I64 n ∧ I64 s) ∧ I64 n2 ∧ I64 s2) := ⟨⟨hn, hs⟩, hn2, hs2⟩
  clear hn hs hn2 hs2
  have hb2 := (Blk.new' (w.alloc (.cells #[.int .i64 n, .int .i64 s] 23)) 23 #[.int .i64 n2, .int .i64 s2] (n := w.heap.size + 1) (by simp)).alloc (.cells #[.int .i64 0, .int .i64 0] 23)
  have hb1 := Blk.new' ((w.alloc (.cells #[.int .i64 n, .int .i64 s] 23)).alloc (.cells #[.int .i64 n2, .int .i64 s2] 23)) 23 #[.int .i64 0, .int .i64 0] (n := w.heap.size + 1 + 1) (by simp)
  by_cases h1 : soundS n s = true
  · have h2 : soundS n2 s2 = false := by
      rw [h1, Bool.true_and] at h; simpa using h
    clear h
    go_enter Tryz.func6, Tryz.ntmps6
    go_wp2_with fail
    refine (rsound_any n s HN.out.1.1.1 HN.out.1.1.2 HN.out.1.2.1 HN.out.1.2.2 _).mono ?_
    rintro e w1 ⟨rfl, hb⟩
    replace hb1 := hb1.step hb
    replace hb2 := hb2.step hb
    have e0 := hb2.cell 0
    have e1 := hb2.cell 1
    simp at e0 e1
    go_wp2_with fail
    refine (rsound_any n2 s2 HN.out.2.1.1 HN.out.2.1.2 HN.out.2.2.1 HN.out.2.2.2 _).mono ?_
    rintro e w2 ⟨rfl, hb'⟩
    replace hb1 := hb1.step hb'
    go_wp2_with (first | (refine wpList_store_blk hb1 rfl _ _ _ (by rfl) _ (by rfl) (by rfl) (by (repeat (first | (with_reducible exact hb1) | (with_reducible refine Blk.alloc ?_ _) | (with_reducible refine Blk.drew ?_) | (with_reducible refine Blk.far ?_ (by first | (simp; done) | (simp; omega)) _) | (with_reducible refine Blk.turn ?_ (by with_reducible assumption) (by omega))))) (by rfl) (by kernel_rfl) (by simp [Value.oneCell']) ?_; intro wt hb1n ht))
    refine ret_blk2 rfl hb1n rfl Tryz.underlying23 rfl (by kernel_rfl) rfl ?_
    exact ⟨rfl, by (repeat' (first | (with_reducible exact Below.refl _ _) | (with_reducible assumption) | (with_reducible refine balloc ?_ _) | (with_reducible refine Below.drew ?_) | (with_reducible refine bset ?_ ?_ _) | (with_reducible refine bstep ?_ (by with_reducible assumption)) | (with_reducible refine bturn ?_ (by with_reducible assumption) ?_) | go_size))⟩
  · replace h1 : soundS n s = false := by simpa using h1
    clear h
    go_enter Tryz.func6, Tryz.ntmps6
    go_wp2_with fail
    refine (rsound_any n s HN.out.1.1.1 HN.out.1.1.2 HN.out.1.2.1 HN.out.1.2.2 _).mono ?_
    rintro e w1 ⟨rfl, hb⟩
    replace hb1 := hb1.step hb
    go_wp2_with (first | (refine wpList_store_blk hb1 rfl _ _ _ (by rfl) _ (by rfl) (by rfl) (by (repeat (first | (with_reducible exact hb1) | (with_reducible refine Blk.alloc ?_ _) | (with_reducible refine Blk.drew ?_) | (with_reducible refine Blk.far ?_ (by first | (simp; done) | (simp; omega)) _) | (with_reducible refine Blk.turn ?_ (by with_reducible assumption) (by omega))))) (by rfl) (by kernel_rfl) (by simp [Value.oneCell']) ?_; intro wt hb1n ht))
    refine ret_blk2 rfl hb1n rfl Tryz.underlying23 rfl (by kernel_rfl) rfl ?_
    exact ⟨rfl, by (repeat' (first | (with_reducible exact Below.refl _ _) | (with_reducible assumption) | (with_reducible refine balloc ?_ _) | (with_reducible refine Below.drew ?_) | (with_reducible refine bset ?_ ?_ _) | (with_reducible refine bstep ?_ (by with_reducible assumption)) | (with_reducible refine bturn ?_ (by with_reducible assumption) ?_) | go_size))⟩

set_option maxHeartbeats 4000000 in
set_option maxRecDepth 100000 in
theorem radd_same (n s n2 s2 : Int) (N t N2 t2 Z : Nat) (neg : Bool) (hn : I64 n) (hs : I64 s) (hn2 : I64 n2) (hs2 : I64 s2) (h1 : soundS n s = true) (h2 : soundS n2 s2 = true)
    (hN : mag n = (N : Int)) (ht : s = 12 - (t : Int)) (hN2 : mag n2 = (N2 : Int)) (ht2 : s2 = 12 - (t2 : Int)) (t0 : 6 ≤ t) (t1 : t ≤ 12) (t3 : 6 ≤ t2) (t4 : t2 ≤ 12)
    (hneg : decide (n < 0) = neg) (hneg2 : decide (n2 < 0) = neg) (hZ : N * 10 ^ t + N2 * 10 ^ t2 = Z * 1000000) (hX : N * 10 ^ t + N2 * 10 ^ t2 < 10 ^ 40) (w : World) :
    Calls Tryz.prog 6 #[.agg #[.int .i64 n, .int .i64 s], .agg #[.int .i64 n2, .int .i64 s2]] w fun e w' => e = .returned (.tuple #[.agg #[.int .i64 (decS 6 Z neg).n, .int .i64 (decS 6 Z neg).s], .int .i64 (decS 6 Z neg).e]) ∧ Below w.heap.size w w' := by
  have HN : Hid ((I64 n ∧ I64 s) ∧ I64 n2 ∧ I64 s2) := ⟨⟨hn, hs⟩, hn2, hs2⟩
  obtain ⟨b1, b2, b3, b4, _⟩ := sound_bd h1
  obtain ⟨d1, d2, d3, d4, _⟩ := sound_bd h2
  have HLa := Lib.hid (fun w => long_ex n s N t w b3 b4 hN ht t0 t1)
  have HLb := Lib.hid (fun w => long_ex n2 s2 N2 t2 w d3 d4 hN2 ht2 t3 t4)
  have HX := Lib.hid hX
  have HZ := Lib.hid hZ
  clear hn hs hn2 hs2 hN ht hN2 ht2 hX hZ
  have hb0 := ((Blk.new w 23 #[.int .i64 n, .int .i64 s]).alloc (.cells #[.int .i64 n2, .int .i64 s2] 23)).alloc (.cells #[.int .i64 0, .int .i64 0] 23)
  have hb2 := (Blk.new' (w.alloc (.cells #[.int .i64 n, .int .i64 s] 23)) 23 #[.int .i64 n2, .int .i64 s2] (n := w.heap.size + 1) (by simp)).alloc (.cells #[.int .i64 0, .int .i64 0] 23)
  have hb1 := Blk.new' ((w.alloc (.cells #[.int .i64 n, .int .i64 s] 23)).alloc (.cells #[.int .i64 n2, .int .i64 s2] 23)) 23 #[.int .i64 0, .int .i64 0] (n := w.heap.size + 1 + 1) (by simp)
  go_enter Tryz.func6, Tryz.ntmps6
  go_wp2_with fail
  refine (rsound_any n s HN.out.1.1.1 HN.out.1.1.2 HN.out.1.2.1 HN.out.1.2.2 _).mono ?_
  rintro e w1 ⟨rfl, hb⟩
  replace hb0 := hb0.step hb
  replace hb1 := hb1.step hb
  replace hb2 := hb2.step hb
  have e0 := hb2.cell 0
  have e1 := hb2.cell 1
  simp at e0 e1
  go_wp2_with fail
  refine (rsound_any n2 s2 HN.out.2.1.1 HN.out.2.1.2 HN.out.2.2.1 HN.out.2.2.2 _).mono ?_
  rintro e w2 ⟨rfl, hb'⟩
  replace hb0 := hb0.step hb'
  replace hb1 := hb1.step hb'
  replace hb2 := hb2.step hb'
  have hbl : Below w.heap.size w w2 := by (repeat' (first | (with_reducible exact Below.refl _ _) | (with_reducible assumption) | (with_reducible refine balloc ?_ _) | (with_reducible refine Below.drew ?_) | (with_reducible refine bset ?_ ?_ _) | (with_reducible refine bstep ?_ (by with_reducible assumption)) | (with_reducible refine bturn ?_ (by with_reducible assumption) ?_) | go_size))
  have c0 := hb0.cell 0
  have c1 := hb0.cell 1
  have e2 := hb2.cell 0
  have e3 := hb2.cell 1
  simp at c0 c1 e2 e3
  clear e0 e1
  go_upto_region 3 with fail
  clear h1 h2
  go_cut [6, 7] (fun x y wx => ∃ g g2 : Nat, x = .slice (some ⟨g, 0, none⟩) 60 60 ∧ y = .slice (some ⟨g2, 0, none⟩) 60 60 ∧ Row wx g 0 60 (N * 10 ^ t) ∧ Row wx g2 0 60 (N2 * 10 ^ t2) ∧ Blk wx w.heap.size 23 #[.int .i64 n, .int .i64 s] ∧ Blk wx (w.heap.size + 1) 23 #[.int .i64 n2, .int .i64 s2] ∧ Blk wx (w.heap.size + 1 + 1) 23 #[.int .i64 0, .int .i64 0] ∧ Below w.heap.size w wx)
  case first =>
    go_region_held3 (fun w' => (Blk w' w.heap.size 23 #[.int .i64 n, .int .i64 s]) ∧ (Blk w' (w.heap.size + 1) 23 #[.int .i64 n2, .int .i64 s2]) ∧ (Blk w' (w.heap.size + 1 + 1) 23 #[.int .i64 0, .int .i64 0]) ∧ (Below w.heap.size w w') ∧ (w'.cell? ⟨w.heap.size, 0, none⟩ = some (.int .i64 n) ∧ w'.cell? ⟨w.heap.size, 1, none⟩ = some (.int .i64 s)) ∧ w'.cell? ⟨w.heap.size + 1, 0, none⟩ = some (.int .i64 n2) ∧ w'.cell? ⟨w.heap.size + 1, 1, none⟩ = some (.int .i64 s2)) ((go_split_ands; (repeat' apply And.intro) <;> first | assumption | exact keep1 (by assumption) (by assumption) | exact Blk.step (by assumption) (by assumption) | ((repeat' (first | (with_reducible exact Below.refl _ _) | (with_reducible assumption) | (with_reducible refine balloc ?_ _) | (with_reducible refine Below.drew ?_) | (with_reducible refine bset ?_ ?_ _) | (with_reducible refine bstep ?_ (by with_reducible assumption)) | (with_reducible refine bturn ?_ (by with_reducible assumption) ?_) | go_size)))))
      (first
        | (go_at_call_of 15 (Value.agg #[Value.int .i64 n, Value.int .i64 s]); refine (HLa.out _).mono ?_; rintro e w' ⟨⟨g, rfl, hrow⟩, hb3⟩)
        | (go_at_call_of 15 (Value.agg #[Value.int .i64 n2, Value.int .i64 s2]); refine (HLb.out _).mono ?_; rintro e w' ⟨⟨g2, rfl, hrow2⟩, hb4⟩))
    all_goals
      go_split_ands
      go_wp2_with fail
      go_meet
      case rel => exact ⟨g, g2, rfl, rfl, by first | exact hrow | exact hrow.step (by assumption), by first | exact hrow2 | exact hrow2.step (by assumption), by assumption, by assumption, by assumption, by first | assumption | (repeat' (first | (with_reducible exact Below.refl _ _) | (with_reducible assumption) | (with_reducible refine balloc ?_ _) | (with_reducible refine Below.drew ?_) | (with_reducible refine bset ?_ ?_ _) | (with_reducible refine bstep ?_ (by with_reducible assumption)) | (with_reducible refine bturn ?_ (by with_reducible assumption) ?_) | go_size))⟩
  case rest =>
    obtain ⟨g, g2, rfl, rfl, r1, r2, k0, k2, k1, hbc⟩ := hcut
    have y0 := k0.cell 0
    have y2 := k2.cell 0
    simp at y0 y2
    clear c0 c1 e2 e3 hb0 hb1 hb2 hb hb' hbl HLa HLb
    go_upto_region 5 with fail
    go_region_with (first
      | (go_at_call 17; refine (rplus_any g 0 60 g2 0 60 60 _ _ _ (by omega) (r1.step (by (repeat' (first | (with_reducible exact Below.refl _ _) | (with_reducible assumption) | (with_reducible refine balloc ?_ _) | (with_reducible refine Below.drew ?_) | (with_reducible refine bset ?_ ?_ _) | (with_reducible refine bstep ?_ (by with_reducible assumption)) | (with_reducible refine bturn ?_ (by with_reducible assumption) ?_) | go_size)))) (r2.step (by (repeat' (first | (with_reducible exact Below.refl _ _) | (with_reducible assumption) | (with_reducible refine balloc ?_ _) | (with_reducible refine Below.drew ?_) | (with_reducible refine bset ?_ ?_ _) | (with_reducible refine bstep ?_ (by with_reducible assumption)) | (with_reducible refine bturn ?_ (by with_reducible assumption) ?_) | go_size))))).mono ?_; rintro e w3 ⟨rfl, hB, hb3⟩; have z0 := (k0.step (w' := w3) (by (repeat' (first | (with_reducible exact Below.refl _ _) | (with_reducible assumption) | (with_reducible refine balloc ?_ _) | (with_reducible refine Below.drew ?_) | (with_reducible refine bset ?_ ?_ _) | (with_reducible refine bstep ?_ (by with_reducible assumption)) | (with_reducible refine bturn ?_ (by with_reducible assumption) ?_) | go_size)))).cell 0; simp at z0)
      | (go_at_call 16; refine (rdec_12 _ 0 60 _ Z neg _ HX.out ((Row.of_blk hB).step (by (repeat' (first | (with_reducible exact Below.refl _ _) | (with_reducible assumption) | (with_reducible refine balloc ?_ _) | (with_reducible refine Below.drew ?_) | (with_reducible refine bset ?_ ?_ _) | (with_reducible refine bstep ?_ (by with_reducible assumption)) | (with_reducible refine bturn ?_ (by with_reducible assumption) ?_) | go_size)))) (by omega) HZ.out).mono ?_; rintro e w4 ⟨rfl, hb4⟩; have k4 := k1.step (w' := w4) (by (repeat' (first | (with_reducible exact Below.refl _ _) | (with_reducible assumption) | (with_reducible refine balloc ?_ _) | (with_reducible refine Below.drew ?_) | (with_reducible refine bset ?_ ?_ _) | (with_reducible refine bstep ?_ (by with_reducible assumption)) | (with_reducible refine bturn ?_ (by with_reducible assumption) ?_) | go_size))); have x0 := k4.cell 0; have x1 := k4.cell 1; simp at x0 x1; have f0 := k4.frozen 0; have f1 := k4.frozen 1; have l4 := k4.lt))
    all_goals
      go_wp2_with fail
      have kr := ((k4.set_ 0 (.int .i64 (decS 6 Z neg).n)).set_ 1 (.int .i64 (decS 6 Z neg).s))
      first
        | (refine ret_blk2 rfl kr rfl Tryz.underlying23 rfl (by kernel_rfl) rfl ?_; exact ⟨rfl, by (repeat' (first | (with_reducible exact Below.refl _ _) | (with_reducible assumption) | (with_reducible refine balloc ?_ _) | (with_reducible refine Below.drew ?_) | (with_reducible refine bset ?_ ?_ _) | (with_reducible refine bstep ?_ (by with_reducible assumption)) | (with_reducible refine bturn ?_ (by with_reducible assumption) ?_) | go_size))⟩)
        | (refine ret_blk2 rfl kr.drew rfl Tryz.underlying23 rfl (by kernel_rfl) rfl ?_; exact ⟨rfl, by (repeat' (first | (with_reducible exact Below.refl _ _) | (with_reducible assumption) | (with_reducible refine balloc ?_ _) | (with_reducible refine Below.drew ?_) | (with_reducible refine bset ?_ ?_ _) | (with_reducible refine bstep ?_ (by with_reducible assumption)) | (with_reducible refine bturn ?_ (by with_reducible assumption) ?_) | go_size))⟩)
        | (refine ret_blk2 rfl kr.drew.drew rfl Tryz.underlying23 rfl (by kernel_rfl) rfl ?_; exact ⟨rfl, by (repeat' (first | (with_reducible exact Below.refl _ _) | (with_reducible assumption) | (with_reducible refine balloc ?_ _) | (with_reducible refine Below.drew ?_) | (with_reducible refine bset ?_ ?_ _) | (with_reducible refine bstep ?_ (by with_reducible assumption)) | (with_reducible refine bturn ?_ (by with_reducible assumption) ?_) | go_size))⟩)

set_option maxHeartbeats 4000000 in
set_option maxRecDepth 100000 in
theorem radd_less (n s n2 s2 : Int) (N t N2 t2 Z D : Nat) (p q : Bool) (hn : I64 n) (hs : I64 s) (hn2 : I64 n2) (hs2 : I64 s2) (h1 : soundS n s = true) (h2 : soundS n2 s2 = true)
    (hN : mag n = (N : Int)) (ht : s = 12 - (t : Int)) (hN2 : mag n2 = (N2 : Int)) (ht2 : s2 = 12 - (t2 : Int)) (t0 : 6 ≤ t) (t1 : t ≤ 12) (t3 : 6 ≤ t2) (t4 : t2 ≤ 12)
    (hneg : decide (n < 0) = p) (hneg2 : decide (n2 < 0) = q) (hpq : (p == q) = false) (hA : N * 10 ^ t < 10 ^ 60) (hB' : N2 * 10 ^ t2 < 10 ^ 60) (hL : decide (N * 10 ^ t < N2 * 10 ^ t2) = true) (hD : N2 * 10 ^ t2 = D + N * 10 ^ t) (hZ : D = Z * 1000000) (hX : D < 10 ^ 40) (w : World) :
    Calls Tryz.prog 6 #[.agg #[.int .i64 n, .int .i64 s], .agg #[.int .i64 n2, .int .i64 s2]] w fun e w' => e = .returned (.tuple #[.agg #[.int .i64 (decS 6 Z q).n, .int .i64 (decS 6 Z q).s], .int .i64 (decS 6 Z q).e]) ∧ Below w.heap.size w w' := by
  have HN : Hid ((I64 n ∧ I64 s) ∧ I64 n2 ∧ I64 s2) := ⟨⟨hn, hs⟩, hn2, hs2⟩
  obtain ⟨b1, b2, b3, b4, _⟩ := sound_bd h1
  obtain ⟨d1, d2, d3, d4, _⟩ := sound_bd h2
  have HLa := Lib.hid (fun w => long_ex n s N t w b3 b4 hN ht t0 t1)
  have HLb := Lib.hid (fun w => long_ex n2 s2 N2 t2 w d3 d4 hN2 ht2 t3 t4)
  have HX := Lib.hid hX
  have HZ := Lib.hid hZ
  have HA := Lib.hid hA
  have HB := Lib.hid hB'
  have HD := Lib.hid hD
  have HQ := Lib.hid hL
  clear hn hs hn2 hs2 hN ht hN2 ht2 hX hZ hA hB' hD hL
  have hb0 := ((Blk.new w 23 #[.int .i64 n, .int .i64 s]).alloc (.cells #[.int .i64 n2, .int .i64 s2] 23)).alloc (.cells #[.int .i64 0, .int .i64 0] 23)
  have hb2 := (Blk.new' (w.alloc (.cells #[.int .i64 n, .int .i64 s] 23)) 23 #[.int .i64 n2, .int .i64 s2] (n := w.heap.size + 1) (by simp)).alloc (.cells #[.int .i64 0, .int .i64 0] 23)
  have hb1 := Blk.new' ((w.alloc (.cells #[.int .i64 n, .int .i64 s] 23)).alloc (.cells #[.int .i64 n2, .int .i64 s2] 23)) 23 #[.int .i64 0, .int .i64 0] (n := w.heap.size + 1 + 1) (by simp)
  go_enter Tryz.func6, Tryz.ntmps6
  go_wp2_with fail
  refine (rsound_any n s HN.out.1.1.1 HN.out.1.1.2 HN.out.1.2.1 HN.out.1.2.2 _).mono ?_
  rintro e w1 ⟨rfl, hb⟩
  replace hb0 := hb0.step hb
  replace hb1 := hb1.step hb
  replace hb2 := hb2.step hb
  have e0 := hb2.cell 0
  have e1 := hb2.cell 1
  simp at e0 e1
  go_wp2_with fail
  refine (rsound_any n2 s2 HN.out.2.1.1 HN.out.2.1.2 HN.out.2.2.1 HN.out.2.2.2 _).mono ?_
  rintro e w2 ⟨rfl, hb'⟩
  replace hb0 := hb0.step hb'
  replace hb1 := hb1.step hb'
  replace hb2 := hb2.step hb'
  have hbl : Below w.heap.size w w2 := by (repeat' (first | (with_reducible exact Below.refl _ _) | (with_reducible assumption) | (with_reducible refine balloc ?_ _) | (with_reducible refine Below.drew ?_) | (with_reducible refine bset ?_ ?_ _) | (with_reducible refine bstep ?_ (by with_reducible assumption)) | (with_reducible refine bturn ?_ (by with_reducible assumption) ?_) | go_size))
  have c0 := hb0.cell 0
  have c1 := hb0.cell 1
  have e2 := hb2.cell 0
  have e3 := hb2.cell 1
  simp at c0 c1 e2 e3
  clear e0 e1
  go_upto_region 3 with fail
  clear h1 h2
  go_cut [6, 7] (fun x y wx => ∃ g g2 : Nat, x = .slice (some ⟨g, 0, none⟩) 60 60 ∧ y = .slice (some ⟨g2, 0, none⟩) 60 60 ∧ Row wx g 0 60 (N * 10 ^ t) ∧ Row wx g2 0 60 (N2 * 10 ^ t2) ∧ Blk wx w.heap.size 23 #[.int .i64 n, .int .i64 s] ∧ Blk wx (w.heap.size + 1) 23 #[.int .i64 n2, .int .i64 s2] ∧ Blk wx (w.heap.size + 1 + 1) 23 #[.int .i64 0, .int .i64 0] ∧ Below w.heap.size w wx)
  case first =>
    go_region_held3 (fun w' => (Blk w' w.heap.size 23 #[.int .i64 n, .int .i64 s]) ∧ (Blk w' (w.heap.size + 1) 23 #[.int .i64 n2, .int .i64 s2]) ∧ (Blk w' (w.heap.size + 1 + 1) 23 #[.int .i64 0, .int .i64 0]) ∧ (Below w.heap.size w w') ∧ (w'.cell? ⟨w.heap.size, 0, none⟩ = some (.int .i64 n) ∧ w'.cell? ⟨w.heap.size, 1, none⟩ = some (.int .i64 s)) ∧ w'.cell? ⟨w.heap.size + 1, 0, none⟩ = some (.int .i64 n2) ∧ w'.cell? ⟨w.heap.size + 1, 1, none⟩ = some (.int .i64 s2)) ((go_split_ands; (repeat' apply And.intro) <;> first | assumption | exact keep1 (by assumption) (by assumption) | exact Blk.step (by assumption) (by assumption) | ((repeat' (first | (with_reducible exact Below.refl _ _) | (with_reducible assumption) | (with_reducible refine balloc ?_ _) | (with_reducible refine Below.drew ?_) | (with_reducible refine bset ?_ ?_ _) | (with_reducible refine bstep ?_ (by with_reducible assumption)) | (with_reducible refine bturn ?_ (by with_reducible assumption) ?_) | go_size)))))
      (first
        | (go_at_call_of 15 (Value.agg #[Value.int .i64 n, Value.int .i64 s]); refine (HLa.out _).mono ?_; rintro e w' ⟨⟨g, rfl, hrow⟩, hb3⟩)
        | (go_at_call_of 15 (Value.agg #[Value.int .i64 n2, Value.int .i64 s2]); refine (HLb.out _).mono ?_; rintro e w' ⟨⟨g2, rfl, hrow2⟩, hb4⟩))
    all_goals
      go_split_ands
      go_wp2_with fail
      go_meet
      case rel => exact ⟨g, g2, rfl, rfl, by first | exact hrow | exact hrow.step (by assumption), by first | exact hrow2 | exact hrow2.step (by assumption), by assumption, by assumption, by assumption, by first | assumption | (repeat' (first | (with_reducible exact Below.refl _ _) | (with_reducible assumption) | (with_reducible refine balloc ?_ _) | (with_reducible refine Below.drew ?_) | (with_reducible refine bset ?_ ?_ _) | (with_reducible refine bstep ?_ (by with_reducible assumption)) | (with_reducible refine bturn ?_ (by with_reducible assumption) ?_) | go_size))⟩
  case rest =>
    obtain ⟨g, g2, rfl, rfl, r1, r2, k0, k2, k1, hbc⟩ := hcut
    have y0 := k0.cell 0
    have y2 := k2.cell 0
    simp at y0 y2
    clear c0 c1 e2 e3 hb0 hb1 hb2 hb hb' hbl HLa HLb
    go_wp2_with fail
    refine (rless_any g 0 60 g2 0 60 60 (N * 10 ^ t) (N2 * 10 ^ t2) _ (by omega) (r1.step (by (repeat' (first | (with_reducible exact Below.refl _ _) | (with_reducible assumption) | (with_reducible refine balloc ?_ _) | (with_reducible refine Below.drew ?_) | (with_reducible refine bset ?_ ?_ _) | (with_reducible refine bstep ?_ (by with_reducible assumption)) | (with_reducible refine bturn ?_ (by with_reducible assumption) ?_) | go_size)))) (r2.step (by (repeat' (first | (with_reducible exact Below.refl _ _) | (with_reducible assumption) | (with_reducible refine balloc ?_ _) | (with_reducible refine Below.drew ?_) | (with_reducible refine bset ?_ ?_ _) | (with_reducible refine bstep ?_ (by with_reducible assumption)) | (with_reducible refine bturn ?_ (by with_reducible assumption) ?_) | go_size)))) HA.out HB.out).mono ?_
    rintro e w6 ⟨rfl, hb6⟩
    rw [HQ.out]
    replace r1 := r1.step (w' := w6) (by (repeat' (first | (with_reducible exact Below.refl _ _) | (with_reducible assumption) | (with_reducible refine balloc ?_ _) | (with_reducible refine Below.drew ?_) | (with_reducible refine bset ?_ ?_ _) | (with_reducible refine bstep ?_ (by with_reducible assumption)) | (with_reducible refine bturn ?_ (by with_reducible assumption) ?_) | go_size)))
    replace r2 := r2.step (w' := w6) (by (repeat' (first | (with_reducible exact Below.refl _ _) | (with_reducible assumption) | (with_reducible refine balloc ?_ _) | (with_reducible refine Below.drew ?_) | (with_reducible refine bset ?_ ?_ _) | (with_reducible refine bstep ?_ (by with_reducible assumption)) | (with_reducible refine bturn ?_ (by with_reducible assumption) ?_) | go_size)))
    replace k0 := k0.step (w' := w6) (by (repeat' (first | (with_reducible exact Below.refl _ _) | (with_reducible assumption) | (with_reducible refine balloc ?_ _) | (with_reducible refine Below.drew ?_) | (with_reducible refine bset ?_ ?_ _) | (with_reducible refine bstep ?_ (by with_reducible assumption)) | (with_reducible refine bturn ?_ (by with_reducible assumption) ?_) | go_size)))
    replace k1 := k1.step (w' := w6) (by (repeat' (first | (with_reducible exact Below.refl _ _) | (with_reducible assumption) | (with_reducible refine balloc ?_ _) | (with_reducible refine Below.drew ?_) | (with_reducible refine bset ?_ ?_ _) | (with_reducible refine bstep ?_ (by with_reducible assumption)) | (with_reducible refine bturn ?_ (by with_reducible assumption) ?_) | go_size)))
    replace k2 := k2.step (w' := w6) (by (repeat' (first | (with_reducible exact Below.refl _ _) | (with_reducible assumption) | (with_reducible refine balloc ?_ _) | (with_reducible refine Below.drew ?_) | (with_reducible refine bset ?_ ?_ _) | (with_reducible refine bstep ?_ (by with_reducible assumption)) | (with_reducible refine bturn ?_ (by with_reducible assumption) ?_) | go_size)))
    replace hbc : Below w.heap.size w w6 := by (repeat' (first | (with_reducible exact Below.refl _ _) | (with_reducible assumption) | (with_reducible refine balloc ?_ _) | (with_reducible refine Below.drew ?_) | (with_reducible refine bset ?_ ?_ _) | (with_reducible refine bstep ?_ (by with_reducible assumption)) | (with_reducible refine bturn ?_ (by with_reducible assumption) ?_) | go_size))
    replace y0 := k0.cell 0
    replace y2 := k2.cell 0
    simp at y0 y2
    clear hb6
    go_upto_region 7 with fail
    go_region_with (first
      | (go_at_call 19; refine (rminus_any g2 0 60 g 0 60 60 _ _ D _ (by omega) HD.out HB.out (r2.step (by (repeat' (first | (with_reducible exact Below.refl _ _) | (with_reducible assumption) | (with_reducible refine balloc ?_ _) | (with_reducible refine Below.drew ?_) | (with_reducible refine bset ?_ ?_ _) | (with_reducible refine bstep ?_ (by with_reducible assumption)) | (with_reducible refine bturn ?_ (by with_reducible assumption) ?_) | go_size)))) (r1.step (by (repeat' (first | (with_reducible exact Below.refl _ _) | (with_reducible assumption) | (with_reducible refine balloc ?_ _) | (with_reducible refine Below.drew ?_) | (with_reducible refine bset ?_ ?_ _) | (with_reducible refine bstep ?_ (by with_reducible assumption)) | (with_reducible refine bturn ?_ (by with_reducible assumption) ?_) | go_size))))).mono ?_; rintro e w3 ⟨rfl, hB, hb3⟩; have z0 := (k2.step (w' := w3) (by (repeat' (first | (with_reducible exact Below.refl _ _) | (with_reducible assumption) | (with_reducible refine balloc ?_ _) | (with_reducible refine Below.drew ?_) | (with_reducible refine bset ?_ ?_ _) | (with_reducible refine bstep ?_ (by with_reducible assumption)) | (with_reducible refine bturn ?_ (by with_reducible assumption) ?_) | go_size)))).cell 0; simp at z0)
      | (go_at_call 16; refine (rdec_12 _ 0 60 _ Z q _ HX.out ((Row.of_blk hB).step (by (repeat' (first | (with_reducible exact Below.refl _ _) | (with_reducible assumption) | (with_reducible refine balloc ?_ _) | (with_reducible refine Below.drew ?_) | (with_reducible refine bset ?_ ?_ _) | (with_reducible refine bstep ?_ (by with_reducible assumption)) | (with_reducible refine bturn ?_ (by with_reducible assumption) ?_) | go_size)))) (by omega) HZ.out).mono ?_; rintro e w4 ⟨rfl, hb4⟩; have k4 := k1.step (w' := w4) (by (repeat' (first | (with_reducible exact Below.refl _ _) | (with_reducible assumption) | (with_reducible refine balloc ?_ _) | (with_reducible refine Below.drew ?_) | (with_reducible refine bset ?_ ?_ _) | (with_reducible refine bstep ?_ (by with_reducible assumption)) | (with_reducible refine bturn ?_ (by with_reducible assumption) ?_) | go_size))); have x0 := k4.cell 0; have x1 := k4.cell 1; simp at x0 x1; have f0 := k4.frozen 0; have f1 := k4.frozen 1; have l4 := k4.lt))
    all_goals
      go_wp2_with fail
      have kr := ((k4.set_ 0 (.int .i64 (decS 6 Z q).n)).set_ 1 (.int .i64 (decS 6 Z q).s))
      first
        | (refine ret_blk2 rfl kr rfl Tryz.underlying23 rfl (by kernel_rfl) rfl ?_; exact ⟨rfl, by (repeat' (first | (with_reducible exact Below.refl _ _) | (with_reducible assumption) | (with_reducible refine balloc ?_ _) | (with_reducible refine Below.drew ?_) | (with_reducible refine bset ?_ ?_ _) | (with_reducible refine bstep ?_ (by with_reducible assumption)) | (with_reducible refine bturn ?_ (by with_reducible assumption) ?_) | go_size))⟩)
        | (refine ret_blk2 rfl kr.drew rfl Tryz.underlying23 rfl (by kernel_rfl) rfl ?_; exact ⟨rfl, by (repeat' (first | (with_reducible exact Below.refl _ _) | (with_reducible assumption) | (with_reducible refine balloc ?_ _) | (with_reducible refine Below.drew ?_) | (with_reducible refine bset ?_ ?_ _) | (with_reducible refine bstep ?_ (by with_reducible assumption)) | (with_reducible refine bturn ?_ (by with_reducible assumption) ?_) | go_size))⟩)
        | (refine ret_blk2 rfl kr.drew.drew rfl Tryz.underlying23 rfl (by kernel_rfl) rfl ?_; exact ⟨rfl, by (repeat' (first | (with_reducible exact Below.refl _ _) | (with_reducible assumption) | (with_reducible refine balloc ?_ _) | (with_reducible refine Below.drew ?_) | (with_reducible refine bset ?_ ?_ _) | (with_reducible refine bstep ?_ (by with_reducible assumption)) | (with_reducible refine bturn ?_ (by with_reducible assumption) ?_) | go_size))⟩)

set_option maxHeartbeats 4000000 in
set_option maxRecDepth 100000 in
theorem radd_geq (n s n2 s2 : Int) (N t N2 t2 Z D : Nat) (p q : Bool) (hn : I64 n) (hs : I64 s) (hn2 : I64 n2) (hs2 : I64 s2) (h1 : soundS n s = true) (h2 : soundS n2 s2 = true)
    (hN : mag n = (N : Int)) (ht : s = 12 - (t : Int)) (hN2 : mag n2 = (N2 : Int)) (ht2 : s2 = 12 - (t2 : Int)) (t0 : 6 ≤ t) (t1 : t ≤ 12) (t3 : 6 ≤ t2) (t4 : t2 ≤ 12)
    (hneg : decide (n < 0) = p) (hneg2 : decide (n2 < 0) = q) (hpq : (p == q) = false) (hA : N * 10 ^ t < 10 ^ 60) (hB' : N2 * 10 ^ t2 < 10 ^ 60) (hL : decide (N * 10 ^ t < N2 * 10 ^ t2) = false) (hD : N * 10 ^ t = D + N2 * 10 ^ t2) (hZ : D = Z * 1000000) (hX : D < 10 ^ 40) (w : World) :
    Calls Tryz.prog 6 #[.agg #[.int .i64 n, .int .i64 s], .agg #[.int .i64 n2, .int .i64 s2]] w fun e w' => e = .returned (.tuple #[.agg #[.int .i64 (decS 6 Z p).n, .int .i64 (decS 6 Z p).s], .int .i64 (decS 6 Z p).e]) ∧ Below w.heap.size w w' := by
  have HN : Hid ((I64 n ∧ I64 s) ∧ I64 n2 ∧ I64 s2) := ⟨⟨hn, hs⟩, hn2, hs2⟩
  obtain ⟨b1, b2, b3, b4, _⟩ := sound_bd h1
  obtain ⟨d1, d2, d3, d4, _⟩ := sound_bd h2
  have HLa := Lib.hid (fun w => long_ex n s N t w b3 b4 hN ht t0 t1)
  have HLb := Lib.hid (fun w => long_ex n2 s2 N2 t2 w d3 d4 hN2 ht2 t3 t4)
  have HX := Lib.hid hX
  have HZ := Lib.hid hZ
  have HA := Lib.hid hA
  have HB := Lib.hid hB'
  have HD := Lib.hid hD
  have HQ := Lib.hid hL
  clear hn hs hn2 hs2 hN ht hN2 ht2 hX hZ hA hB' hD hL
  have hb0 := ((Blk.new w 23 #[.int .i64 n, .int .i64 s]).alloc (.cells #[.int .i64 n2, .int .i64 s2] 23)).alloc (.cells #[.int .i64 0, .int .i64 0] 23)
  have hb2 := (Blk.new' (w.alloc (.cells #[.int .i64 n, .int .i64 s] 23)) 23 #[.int .i64 n2, .int .i64 s2] (n := w.heap.size + 1) (by simp)).alloc (.cells #[.int .i64 0, .int .i64 0] 23)
  have hb1 := Blk.new' ((w.alloc (.cells #[.int .i64 n, .int .i64 s] 23)).alloc (.cells #[.int .i64 n2, .int .i64 s2] 23)) 23 #[.int .i64 0, .int .i64 0] (n := w.heap.size + 1 + 1) (by simp)
  go_enter Tryz.func6, Tryz.ntmps6
  go_wp2_with fail
  refine (rsound_any n s HN.out.1.1.1 HN.out.1.1.2 HN.out.1.2.1 HN.out.1.2.2 _).mono ?_
  rintro e w1 ⟨rfl, hb⟩
  replace hb0 := hb0.step hb
  replace hb1 := hb1.step hb
  replace hb2 := hb2.step hb
  have e0 := hb2.cell 0
  have e1 := hb2.cell 1
  simp at e0 e1
  go_wp2_with fail
  refine (rsound_any n2 s2 HN.out.2.1.1 HN.out.2.1.2 HN.out.2.2.1 HN.out.2.2.2 _).mono ?_
  rintro e w2 ⟨rfl, hb'⟩
  replace hb0 := hb0.step hb'
  replace hb1 := hb1.step hb'
  replace hb2 := hb2.step hb'
  have hbl : Below w.heap.size w w2 := by (repeat' (first | (with_reducible exact Below.refl _ _) | (with_reducible assumption) | (with_reducible refine balloc ?_ _) | (with_reducible refine Below.drew ?_) | (with_reducible refine bset ?_ ?_ _) | (with_reducible refine bstep ?_ (by with_reducible assumption)) | (with_reducible refine bturn ?_ (by with_reducible assumption) ?_) | go_size))
  have c0 := hb0.cell 0
  have c1 := hb0.cell 1
  have e2 := hb2.cell 0
  have e3 := hb2.cell 1
  simp at c0 c1 e2 e3
  clear e0 e1
  go_upto_region 3 with fail
  clear h1 h2
  go_cut [6, 7] (fun x y wx => ∃ g g2 : Nat, x = .slice (some ⟨g, 0, none⟩) 60 60 ∧ y = .slice (some ⟨g2, 0, none⟩) 60 60 ∧ Row wx g 0 60 (N * 10 ^ t) ∧ Row wx g2 0 60 (N2 * 10 ^ t2) ∧ Blk wx w.heap.size 23 #[.int .i64 n, .int .i64 s] ∧ Blk wx (w.heap.size + 1) 23 #[.int .i64 n2, .int .i64 s2] ∧ Blk wx (w.heap.size + 1 + 1) 23 #[.int .i64 0, .int .i64 0] ∧ Below w.heap.size w wx)
  case first =>
    go_region_held3 (fun w' => (Blk w' w.heap.size 23 #[.int .i64 n, .int .i64 s]) ∧ (Blk w' (w.heap.size + 1) 23 #[.int .i64 n2, .int .i64 s2]) ∧ (Blk w' (w.heap.size + 1 + 1) 23 #[.int .i64 0, .int .i64 0]) ∧ (Below w.heap.size w w') ∧ (w'.cell? ⟨w.heap.size, 0, none⟩ = some (.int .i64 n) ∧ w'.cell? ⟨w.heap.size, 1, none⟩ = some (.int .i64 s)) ∧ w'.cell? ⟨w.heap.size + 1, 0, none⟩ = some (.int .i64 n2) ∧ w'.cell? ⟨w.heap.size + 1, 1, none⟩ = some (.int .i64 s2)) ((go_split_ands; (repeat' apply And.intro) <;> first | assumption | exact keep1 (by assumption) (by assumption) | exact Blk.step (by assumption) (by assumption) | ((repeat' (first | (with_reducible exact Below.refl _ _) | (with_reducible assumption) | (with_reducible refine balloc ?_ _) | (with_reducible refine Below.drew ?_) | (with_reducible refine bset ?_ ?_ _) | (with_reducible refine bstep ?_ (by with_reducible assumption)) | (with_reducible refine bturn ?_ (by with_reducible assumption) ?_) | go_size)))))
      (first
        | (go_at_call_of 15 (Value.agg #[Value.int .i64 n, Value.int .i64 s]); refine (HLa.out _).mono ?_; rintro e w' ⟨⟨g, rfl, hrow⟩, hb3⟩)
        | (go_at_call_of 15 (Value.agg #[Value.int .i64 n2, Value.int .i64 s2]); refine (HLb.out _).mono ?_; rintro e w' ⟨⟨g2, rfl, hrow2⟩, hb4⟩))
    all_goals
      go_split_ands
      go_wp2_with fail
      go_meet
      case rel => exact ⟨g, g2, rfl, rfl, by first | exact hrow | exact hrow.step (by assumption), by first | exact hrow2 | exact hrow2.step (by assumption), by assumption, by assumption, by assumption, by first | assumption | (repeat' (first | (with_reducible exact Below.refl _ _) | (with_reducible assumption) | (with_reducible refine balloc ?_ _) | (with_reducible refine Below.drew ?_) | (with_reducible refine bset ?_ ?_ _) | (with_reducible refine bstep ?_ (by with_reducible assumption)) | (with_reducible refine bturn ?_ (by with_reducible assumption) ?_) | go_size))⟩
  case rest =>
    obtain ⟨g, g2, rfl, rfl, r1, r2, k0, k2, k1, hbc⟩ := hcut
    have y0 := k0.cell 0
    have y2 := k2.cell 0
    simp at y0 y2
    clear c0 c1 e2 e3 hb0 hb1 hb2 hb hb' hbl HLa HLb
    go_wp2_with fail
    refine (rless_any g 0 60 g2 0 60 60 (N * 10 ^ t) (N2 * 10 ^ t2) _ (by omega) (r1.step (by (repeat' (first | (with_reducible exact Below.refl _ _) | (with_reducible assumption) | (with_reducible refine balloc ?_ _) | (with_reducible refine Below.drew ?_) | (with_reducible refine bset ?_ ?_ _) | (with_reducible refine bstep ?_ (by with_reducible assumption)) | (with_reducible refine bturn ?_ (by with_reducible assumption) ?_) | go_size)))) (r2.step (by (repeat' (first | (with_reducible exact Below.refl _ _) | (with_reducible assumption) | (with_reducible refine balloc ?_ _) | (with_reducible refine Below.drew ?_) | (with_reducible refine bset ?_ ?_ _) | (with_reducible refine bstep ?_ (by with_reducible assumption)) | (with_reducible refine bturn ?_ (by with_reducible assumption) ?_) | go_size)))) HA.out HB.out).mono ?_
    rintro e w6 ⟨rfl, hb6⟩
    rw [HQ.out]
    replace r1 := r1.step (w' := w6) (by (repeat' (first | (with_reducible exact Below.refl _ _) | (with_reducible assumption) | (with_reducible refine balloc ?_ _) | (with_reducible refine Below.drew ?_) | (with_reducible refine bset ?_ ?_ _) | (with_reducible refine bstep ?_ (by with_reducible assumption)) | (with_reducible refine bturn ?_ (by with_reducible assumption) ?_) | go_size)))
    replace r2 := r2.step (w' := w6) (by (repeat' (first | (with_reducible exact Below.refl _ _) | (with_reducible assumption) | (with_reducible refine balloc ?_ _) | (with_reducible refine Below.drew ?_) | (with_reducible refine bset ?_ ?_ _) | (with_reducible refine bstep ?_ (by with_reducible assumption)) | (with_reducible refine bturn ?_ (by with_reducible assumption) ?_) | go_size)))
    replace k0 := k0.step (w' := w6) (by (repeat' (first | (with_reducible exact Below.refl _ _) | (with_reducible assumption) | (with_reducible refine balloc ?_ _) | (with_reducible refine Below.drew ?_) | (with_reducible refine bset ?_ ?_ _) | (with_reducible refine bstep ?_ (by with_reducible assumption)) | (with_reducible refine bturn ?_ (by with_reducible assumption) ?_) | go_size)))
    replace k1 := k1.step (w' := w6) (by (repeat' (first | (with_reducible exact Below.refl _ _) | (with_reducible assumption) | (with_reducible refine balloc ?_ _) | (with_reducible refine Below.drew ?_) | (with_reducible refine bset ?_ ?_ _) | (with_reducible refine bstep ?_ (by with_reducible assumption)) | (with_reducible refine bturn ?_ (by with_reducible assumption) ?_) | go_size)))
    replace k2 := k2.step (w' := w6) (by (repeat' (first | (with_reducible exact Below.refl _ _) | (with_reducible assumption) | (with_reducible refine balloc ?_ _) | (with_reducible refine Below.drew ?_) | (with_reducible refine bset ?_ ?_ _) | (with_reducible refine bstep ?_ (by with_reducible assumption)) | (with_reducible refine bturn ?_ (by with_reducible assumption) ?_) | go_size)))
    replace hbc : Below w.heap.size w w6 := by (repeat' (first | (with_reducible exact Below.refl _ _) | (with_reducible assumption) | (with_reducible refine balloc ?_ _) | (with_reducible refine Below.drew ?_) | (with_reducible refine bset ?_ ?_ _) | (with_reducible refine bstep ?_ (by with_reducible assumption)) | (with_reducible refine bturn ?_ (by with_reducible assumption) ?_) | go_size))
    replace y0 := k0.cell 0
    replace y2 := k2.cell 0
    simp at y0 y2
    clear hb6
    go_upto_region 8 with fail
    go_region_with (first
      | (go_at_call 19; refine (rminus_any g 0 60 g2 0 60 60 _ _ D _ (by omega) HD.out HA.out (r1.step (by (repeat' (first | (with_reducible exact Below.refl _ _) | (with_reducible assumption) | (with_reducible refine balloc ?_ _) | (with_reducible refine Below.drew ?_) | (with_reducible refine bset ?_ ?_ _) | (with_reducible refine bstep ?_ (by with_reducible assumption)) | (with_reducible refine bturn ?_ (by with_reducible assumption) ?_) | go_size)))) (r2.step (by (repeat' (first | (with_reducible exact Below.refl _ _) | (with_reducible assumption) | (with_reducible refine balloc ?_ _) | (with_reducible refine Below.drew ?_) | (with_reducible refine bset ?_ ?_ _) | (with_reducible refine bstep ?_ (by with_reducible assumption)) | (with_reducible refine bturn ?_ (by with_reducible assumption) ?_) | go_size))))).mono ?_; rintro e w3 ⟨rfl, hB, hb3⟩; have z0 := (k0.step (w' := w3) (by (repeat' (first | (with_reducible exact Below.refl _ _) | (with_reducible assumption) | (with_reducible refine balloc ?_ _) | (with_reducible refine Below.drew ?_) | (with_reducible refine bset ?_ ?_ _) | (with_reducible refine bstep ?_ (by with_reducible assumption)) | (with_reducible refine bturn ?_ (by with_reducible assumption) ?_) | go_size)))).cell 0; simp at z0)
      | (go_at_call 16; refine (rdec_12 _ 0 60 _ Z p _ HX.out ((Row.of_blk hB).step (by (repeat' (first | (with_reducible exact Below.refl _ _) | (with_reducible assumption) | (with_reducible refine balloc ?_ _) | (with_reducible refine Below.drew ?_) | (with_reducible refine bset ?_ ?_ _) | (with_reducible refine bstep ?_ (by with_reducible assumption)) | (with_reducible refine bturn ?_ (by with_reducible assumption) ?_) | go_size)))) (by omega) HZ.out).mono ?_; rintro e w4 ⟨rfl, hb4⟩; have k4 := k1.step (w' := w4) (by (repeat' (first | (with_reducible exact Below.refl _ _) | (with_reducible assumption) | (with_reducible refine balloc ?_ _) | (with_reducible refine Below.drew ?_) | (with_reducible refine bset ?_ ?_ _) | (with_reducible refine bstep ?_ (by with_reducible assumption)) | (with_reducible refine bturn ?_ (by with_reducible assumption) ?_) | go_size))); have x0 := k4.cell 0; have x1 := k4.cell 1; simp at x0 x1; have f0 := k4.frozen 0; have f1 := k4.frozen 1; have l4 := k4.lt))
    all_goals
      go_wp2_with fail
      have kr := ((k4.set_ 0 (.int .i64 (decS 6 Z p).n)).set_ 1 (.int .i64 (decS 6 Z p).s))
      first
        | (refine ret_blk2 rfl kr rfl Tryz.underlying23 rfl (by kernel_rfl) rfl ?_; exact ⟨rfl, by (repeat' (first | (with_reducible exact Below.refl _ _) | (with_reducible assumption) | (with_reducible refine balloc ?_ _) | (with_reducible refine Below.drew ?_) | (with_reducible refine bset ?_ ?_ _) | (with_reducible refine bstep ?_ (by with_reducible assumption)) | (with_reducible refine bturn ?_ (by with_reducible assumption) ?_) | go_size))⟩)
        | (refine ret_blk2 rfl kr.drew rfl Tryz.underlying23 rfl (by kernel_rfl) rfl ?_; exact ⟨rfl, by (repeat' (first | (with_reducible exact Below.refl _ _) | (with_reducible assumption) | (with_reducible refine balloc ?_ _) | (with_reducible refine Below.drew ?_) | (with_reducible refine bset ?_ ?_ _) | (with_reducible refine bstep ?_ (by with_reducible assumption)) | (with_reducible refine bturn ?_ (by with_reducible assumption) ?_) | go_size))⟩)
        | (refine ret_blk2 rfl kr.drew.drew rfl Tryz.underlying23 rfl (by kernel_rfl) rfl ?_; exact ⟨rfl, by (repeat' (first | (with_reducible exact Below.refl _ _) | (with_reducible assumption) | (with_reducible refine balloc ?_ _) | (with_reducible refine Below.drew ?_) | (with_reducible refine bset ?_ ?_ _) | (with_reducible refine bstep ?_ (by with_reducible assumption)) | (with_reducible refine bturn ?_ (by with_reducible assumption) ?_) | go_size))⟩)
end Go.Proofs.YteljkkfnnmikkaaGreatDoor
