/- The walks of Mul, at every two numbers. -/
import Derived.Test.YteljkkfnnmikkaaDoorDivW
namespace Go.Proofs.YteljkkfnnmikkaaDoor
open Go.RowKit
attribute [local go_sem high] run_dec_eql run_dec_neq

theorem mul_form (n s n2 s2 : Int) (HS : Hid (∀ g c (w : World), Blk w g 23 #[.int .i64 n, .int .i64 s, .int .i64 n2, .int .i64 s2] → Calls Tryd.prog 27 #[.slice (some ⟨g, 0, none⟩) 2 c] w fun e w' => e = .returned (.int .i64 2) ∧ Below w.heap.size w w')) (w : World) :
    Calls Tryd.prog 24 #[.agg #[.int .i64 n, .int .i64 s], .agg #[.int .i64 n2, .int .i64 s2]] w fun e w' => e = .returned (.tuple #[.agg #[.int .i64 (⟨0, 0, 2⟩ : Res).n, .int .i64 (⟨0, 0, 2⟩ : Res).s], .int .i64 (⟨0, 0, 2⟩ : Res).e]) ∧ Below w.heap.size w w' := by
  have hb0 := ((Blk.new w 23 #[.int .i64 n, .int .i64 s]).alloc (.cells #[.int .i64 n2, .int .i64 s2] 23)).alloc (.cells #[.int .i64 0, .int .i64 0] 23)
  have hb2 := (Blk.new' (w.alloc (.cells #[.int .i64 n, .int .i64 s] 23)) 23 #[.int .i64 n2, .int .i64 s2] (n := w.heap.size + 1) (by simp)).alloc (.cells #[.int .i64 0, .int .i64 0] 23)
  have hb1 := Blk.new' ((w.alloc (.cells #[.int .i64 n, .int .i64 s] 23)).alloc (.cells #[.int .i64 n2, .int .i64 s2] 23)) 23 #[.int .i64 0, .int .i64 0] (n := w.heap.size + 1 + 1) (by simp)
  go_enter Tryd.func24, Tryd.ntmps24
  go_wp2_with fail
  refine (HS.out _ _ _ (Blk.new' _ _ _ (by simp))).mono ?_
  rintro e w1 ⟨rfl, hb⟩
  replace hb0 := (hb0.alloc _).step hb
  replace hb2 := (hb2.alloc _).step hb
  replace hb1 := (hb1.alloc _).step hb
  have c0 := hb0.cell 0
  have c1 := hb0.cell 1
  have e0 := hb2.cell 0
  have e1 := hb2.cell 1
  simp at c0 c1 e0 e1
  go_wp2_with (first | (refine wpList_store_blk hb1 rfl _ _ _ (by rfl) _ (by rfl) (by rfl) (by (repeat (first | (with_reducible exact hb1) | (with_reducible refine Blk.alloc ?_ _) | (with_reducible refine Blk.drew ?_) | (with_reducible refine Blk.far ?_ (by first | (simp; done) | (simp; omega)) _) | (with_reducible refine Blk.turn ?_ (by with_reducible assumption) (by omega))))) (by rfl) (by kernel_rfl) (by simp [Value.oneCell']) ?_; intro wt hb1n ht))
  refine ret_blk2 rfl hb1n rfl Tryd.underlying23 rfl (by kernel_rfl) rfl ?_
  exact ⟨rfl, by (repeat' (first | (with_reducible exact Below.refl _ _) | (with_reducible assumption) | (with_reducible refine balloc ?_ _) | (with_reducible refine Below.drew ?_) | (with_reducible refine bset ?_ ?_ _) | (with_reducible refine bstep ?_ (by with_reducible assumption)) | (with_reducible refine bturn ?_ (by with_reducible assumption) ?_) | go_size))⟩

set_option maxHeartbeats 4000000 in
set_option maxRecDepth 100000 in
theorem mul_far1 (n s n2 s2 : Int) (HS : Hid (∀ g c (w : World), Blk w g 23 #[.int .i64 n, .int .i64 s, .int .i64 n2, .int .i64 s2] → Calls Tryd.prog 27 #[.slice (some ⟨g, 0, none⟩) 2 c] w fun e w' => e = .returned (.int .i64 0) ∧ Below w.heap.size w w')) (A B P hi lo : Nat) (sc : Int) (k5 : IntKind.i64.wrap (s + s2) = sc) (k6 : IntKind.i64.wrap (sc - 6) = sc - 6) (sc0 : 0 ≤ sc) (sc12 : sc ≤ 12) (hmx : max (0 : Int) (sc - 6) = 0) (hmn : min sc 6 = sc)
    (HA : Hid (∀ W, Calls Tryd.prog 29 #[.agg #[.int .i64 n, .int .i64 s]] W fun e w' => e = .returned (.int .u64 (A : Int)) ∧ Below W.heap.size W w'))
    (HB : Hid (∀ W, Calls Tryd.prog 29 #[.agg #[.int .i64 n2, .int .i64 s2]] W fun e w' => e = .returned (.int .u64 (B : Int)) ∧ Below W.heap.size W w'))
    (HP : Hid (∀ W, Calls Tryd.prog 30 #[.int .i64 0] W fun e w' => e = .returned (.int .u64 (P : Int)) ∧ Below W.heap.size W w'))
    (HM : Hid (∀ W, Calls Tryd.prog 28 #[.int .u64 (A : Int), .int .u64 (B : Int)] W fun e w' => e = .returned (.tuple #[.int .u64 (hi : Int), .int .u64 (lo : Int)]) ∧ Below W.heap.size W w'))
    (HE : Hid (∀ W, Calls Tryd.prog 31 #[.int .u64 (hi : Int), .int .u64 (lo : Int), .int .u64 (P : Int)] W fun e w' => e = .returned (.tuple #[.int .u64 0, .bool false]) ∧ Below W.heap.size W w')) (w : World) :
    Calls Tryd.prog 24 #[.agg #[.int .i64 n, .int .i64 s], .agg #[.int .i64 n2, .int .i64 s2]] w fun e w' => e = .returned (.tuple #[.agg #[.int .i64 (⟨0, 0, 3⟩ : Res).n, .int .i64 (⟨0, 0, 3⟩ : Res).s], .int .i64 (⟨0, 0, 3⟩ : Res).e]) ∧ Below w.heap.size w w' := by
  have hb0 := ((Blk.new w 23 #[.int .i64 n, .int .i64 s]).alloc (.cells #[.int .i64 n2, .int .i64 s2] 23)).alloc (.cells #[.int .i64 0, .int .i64 0] 23)
  have hb2 := (Blk.new' (w.alloc (.cells #[.int .i64 n, .int .i64 s] 23)) 23 #[.int .i64 n2, .int .i64 s2] (n := w.heap.size + 1) (by simp)).alloc (.cells #[.int .i64 0, .int .i64 0] 23)
  have hb1 := Blk.new' ((w.alloc (.cells #[.int .i64 n, .int .i64 s] 23)).alloc (.cells #[.int .i64 n2, .int .i64 s2] 23)) 23 #[.int .i64 0, .int .i64 0] (n := w.heap.size + 1 + 1) (by simp)
  go_enter Tryd.func24, Tryd.ntmps24
  go_wp2_with fail
  refine (HS.out _ _ _ (Blk.new' _ _ _ (by simp))).mono ?_
  rintro e w1 ⟨rfl, hb⟩
  replace hb0 := (hb0.alloc _).step hb
  replace hb2 := (hb2.alloc _).step hb
  replace hb1 := (hb1.alloc _).step hb
  have c0 := hb0.cell 0
  have c1 := hb0.cell 1
  have e0 := hb2.cell 0
  have e1 := hb2.cell 1
  simp at c0 c1 e0 e1
  go_wp2_with fail
  go_region_held3 (fun w' => (Blk w' (w.heap.size + 1 + 1) 23 #[.int .i64 0, .int .i64 0]) ∧ (Blk w' w.heap.size 23 #[.int .i64 n, .int .i64 s]) ∧ (Blk w' (w.heap.size + 1) 23 #[.int .i64 n2, .int .i64 s2]) ∧ (w'.cell? ⟨w.heap.size, 0, none⟩ = some (.int .i64 n) ∧ w'.cell? ⟨w.heap.size, 1, none⟩ = some (.int .i64 s)) ∧ w'.cell? ⟨w.heap.size + 1, 0, none⟩ = some (.int .i64 n2) ∧ w'.cell? ⟨w.heap.size + 1, 1, none⟩ = some (.int .i64 s2)) ((go_split_ands; (repeat' apply And.intro) <;> first | assumption | exact keep1 (by assumption) (by assumption) | exact Blk.step (by assumption) (by assumption)))
    (first
      | (go_at_call_of 29 (Value.agg #[Value.int .i64 n, Value.int .i64 s]); refine (HA.out _).mono ?_; rintro e w' ⟨rfl, hb'⟩)
      | (go_at_call_of 29 (Value.agg #[Value.int .i64 n2, Value.int .i64 s2]); refine (HB.out _).mono ?_; rintro e w' ⟨rfl, hb'⟩)
      | (go_at_call 28; refine (HM.out _).mono ?_; rintro e w' ⟨rfl, hb'⟩))
  all_goals
    go_split_ands
    go_wp2_with fail
    refine (HP.out _).mono ?_
    rintro e w3 ⟨rfl, hb3⟩
    have hr : Blk w3 (w.heap.size + 1 + 1) 23 #[.int .i64 0, .int .i64 0] := Blk.step (by assumption) hb3
    have hr0 : Blk w3 w.heap.size 23 #[.int .i64 n, .int .i64 s] := Blk.step (by assumption) hb3
    have hr2 : Blk w3 (w.heap.size + 1) 23 #[.int .i64 n2, .int .i64 s2] := Blk.step (by assumption) hb3
    go_wp2_with fail
    refine (HE.out _).mono ?_
    rintro e w4 ⟨rfl, hb4⟩
    replace hr := hr.step hb4
    go_wp2_with (first | (refine wpList_store_blk hr rfl _ _ _ (by rfl) _ (by rfl) (by rfl) (by (repeat (first | (with_reducible exact hr) | (with_reducible refine Blk.alloc ?_ _) | (with_reducible refine Blk.drew ?_) | (with_reducible refine Blk.far ?_ (by first | (simp; done) | (simp; omega)) _) | (with_reducible refine Blk.turn ?_ (by with_reducible assumption) (by omega))))) (by rfl) (by kernel_rfl) (by simp [Value.oneCell']) ?_; intro wt hrn ht))
    refine ret_blk2 rfl hrn rfl Tryd.underlying23 rfl (by kernel_rfl) rfl ?_
    exact ⟨rfl, by (repeat' (first | (with_reducible exact Below.refl _ _) | (with_reducible assumption) | (with_reducible refine balloc ?_ _) | (with_reducible refine Below.drew ?_) | (with_reducible refine bset ?_ ?_ _) | (with_reducible refine bstep ?_ (by with_reducible assumption)) | (with_reducible refine bturn ?_ (by with_reducible assumption) ?_) | go_size))⟩

set_option maxHeartbeats 4000000 in
set_option maxRecDepth 100000 in
theorem mul_near1 (n s n2 s2 : Int) (HS : Hid (∀ g c (w : World), Blk w g 23 #[.int .i64 n, .int .i64 s, .int .i64 n2, .int .i64 s2] → Calls Tryd.prog 27 #[.slice (some ⟨g, 0, none⟩) 2 c] w fun e w' => e = .returned (.int .i64 0) ∧ Below w.heap.size w w')) (A B P hi lo : Nat) (sc : Int) (k5 : IntKind.i64.wrap (s + s2) = sc) (k6 : IntKind.i64.wrap (sc - 6) = sc - 6) (sc0 : 0 ≤ sc) (sc12 : sc ≤ 12) (hmx : max (0 : Int) (sc - 6) = 0) (hmn : min sc 6 = sc)
    (HA : Hid (∀ W, Calls Tryd.prog 29 #[.agg #[.int .i64 n, .int .i64 s]] W fun e w' => e = .returned (.int .u64 (A : Int)) ∧ Below W.heap.size W w'))
    (HB : Hid (∀ W, Calls Tryd.prog 29 #[.agg #[.int .i64 n2, .int .i64 s2]] W fun e w' => e = .returned (.int .u64 (B : Int)) ∧ Below W.heap.size W w'))
    (HP : Hid (∀ W, Calls Tryd.prog 30 #[.int .i64 0] W fun e w' => e = .returned (.int .u64 (P : Int)) ∧ Below W.heap.size W w'))
    (HM : Hid (∀ W, Calls Tryd.prog 28 #[.int .u64 (A : Int), .int .u64 (B : Int)] W fun e w' => e = .returned (.tuple #[.int .u64 (hi : Int), .int .u64 (lo : Int)]) ∧ Below W.heap.size W w')) (E : Nat) (p q : Bool) (r : Res) (hp : decide (n < 0) = p) (hq : decide (n2 < 0) = q)
    (HE : Hid (∀ W, Calls Tryd.prog 31 #[.int .u64 (hi : Int), .int .u64 (lo : Int), .int .u64 (P : Int)] W fun e w' => e = .returned (.tuple #[.int .u64 (E : Int), .bool true]) ∧ Below W.heap.size W w'))
    (HD : Hid (∀ W, Calls Tryd.prog 26 #[.agg #[.int .u64 (E : Int), .int .i64 sc], .bool (p != q)] W fun e w' => e = .returned (.tuple #[.agg #[.int .i64 r.n, .int .i64 r.s], .int .i64 r.e]) ∧ Below W.heap.size W w')) (w : World) :
    Calls Tryd.prog 24 #[.agg #[.int .i64 n, .int .i64 s], .agg #[.int .i64 n2, .int .i64 s2]] w fun e w' => e = .returned (.tuple #[.agg #[.int .i64 r.n, .int .i64 r.s], .int .i64 r.e]) ∧ Below w.heap.size w w' := by
  have hb0 := ((Blk.new w 23 #[.int .i64 n, .int .i64 s]).alloc (.cells #[.int .i64 n2, .int .i64 s2] 23)).alloc (.cells #[.int .i64 0, .int .i64 0] 23)
  have hb2 := (Blk.new' (w.alloc (.cells #[.int .i64 n, .int .i64 s] 23)) 23 #[.int .i64 n2, .int .i64 s2] (n := w.heap.size + 1) (by simp)).alloc (.cells #[.int .i64 0, .int .i64 0] 23)
  have hb1 := Blk.new' ((w.alloc (.cells #[.int .i64 n, .int .i64 s] 23)).alloc (.cells #[.int .i64 n2, .int .i64 s2] 23)) 23 #[.int .i64 0, .int .i64 0] (n := w.heap.size + 1 + 1) (by simp)
  go_enter Tryd.func24, Tryd.ntmps24
  go_wp2_with fail
  refine (HS.out _ _ _ (Blk.new' _ _ _ (by simp))).mono ?_
  rintro e w1 ⟨rfl, hb⟩
  replace hb0 := (hb0.alloc _).step hb
  replace hb2 := (hb2.alloc _).step hb
  replace hb1 := (hb1.alloc _).step hb
  have c0 := hb0.cell 0
  have c1 := hb0.cell 1
  have e0 := hb2.cell 0
  have e1 := hb2.cell 1
  simp at c0 c1 e0 e1
  go_wp2_with fail
  go_region_held3 (fun w' => (Blk w' (w.heap.size + 1 + 1) 23 #[.int .i64 0, .int .i64 0]) ∧ (Blk w' w.heap.size 23 #[.int .i64 n, .int .i64 s]) ∧ (Blk w' (w.heap.size + 1) 23 #[.int .i64 n2, .int .i64 s2]) ∧ (w'.cell? ⟨w.heap.size, 0, none⟩ = some (.int .i64 n) ∧ w'.cell? ⟨w.heap.size, 1, none⟩ = some (.int .i64 s)) ∧ w'.cell? ⟨w.heap.size + 1, 0, none⟩ = some (.int .i64 n2) ∧ w'.cell? ⟨w.heap.size + 1, 1, none⟩ = some (.int .i64 s2)) ((go_split_ands; (repeat' apply And.intro) <;> first | assumption | exact keep1 (by assumption) (by assumption) | exact Blk.step (by assumption) (by assumption)))
    (first
      | (go_at_call_of 29 (Value.agg #[Value.int .i64 n, Value.int .i64 s]); refine (HA.out _).mono ?_; rintro e w' ⟨rfl, hb'⟩)
      | (go_at_call_of 29 (Value.agg #[Value.int .i64 n2, Value.int .i64 s2]); refine (HB.out _).mono ?_; rintro e w' ⟨rfl, hb'⟩)
      | (go_at_call 28; refine (HM.out _).mono ?_; rintro e w' ⟨rfl, hb'⟩))
  all_goals
    go_split_ands
    go_wp2_with fail
    refine (HP.out _).mono ?_
    rintro e w3 ⟨rfl, hb3⟩
    have hr : Blk w3 (w.heap.size + 1 + 1) 23 #[.int .i64 0, .int .i64 0] := Blk.step (by assumption) hb3
    have hr0 : Blk w3 w.heap.size 23 #[.int .i64 n, .int .i64 s] := Blk.step (by assumption) hb3
    have hr2 : Blk w3 (w.heap.size + 1) 23 #[.int .i64 n2, .int .i64 s2] := Blk.step (by assumption) hb3
    go_wp2_with fail
    refine (HE.out _).mono ?_
    rintro e w4 ⟨rfl, hb4⟩
    replace hr := hr.step hb4
    replace hr0 := hr0.step hb4
    replace hr2 := hr2.step hb4
    have f0 := hr0.cell 0
    have f2 := hr2.cell 0
    simp at f0 f2
    go_wp2_with fail
    refine (HD.out _).mono ?_
    rintro e w5 ⟨rfl, hb5⟩
    replace hr := hr.step hb5
    go_wp2_with (first | (refine wpList_store_blk hr rfl _ _ _ (by rfl) _ (by rfl) (by rfl) (by (repeat (first | (with_reducible exact hr) | (with_reducible refine Blk.alloc ?_ _) | (with_reducible refine Blk.drew ?_) | (with_reducible refine Blk.far ?_ (by first | (simp; done) | (simp; omega)) _) | (with_reducible refine Blk.turn ?_ (by with_reducible assumption) (by omega))))) (by rfl) (by kernel_rfl) (by simp [Value.oneCell']) ?_; intro wt hrn ht))
    refine ret_blk2 rfl hrn rfl Tryd.underlying23 rfl (by kernel_rfl) rfl ?_
    exact ⟨rfl, by (repeat' (first | (with_reducible exact Below.refl _ _) | (with_reducible assumption) | (with_reducible refine balloc ?_ _) | (with_reducible refine Below.drew ?_) | (with_reducible refine bset ?_ ?_ _) | (with_reducible refine bstep ?_ (by with_reducible assumption)) | (with_reducible refine bturn ?_ (by with_reducible assumption) ?_) | go_size))⟩

set_option maxHeartbeats 4000000 in
set_option maxRecDepth 100000 in
theorem mul_far2 (n s n2 s2 : Int) (HS : Hid (∀ g c (w : World), Blk w g 23 #[.int .i64 n, .int .i64 s, .int .i64 n2, .int .i64 s2] → Calls Tryd.prog 27 #[.slice (some ⟨g, 0, none⟩) 2 c] w fun e w' => e = .returned (.int .i64 0) ∧ Below w.heap.size w w')) (A B P hi lo : Nat) (sc : Int) (k5 : IntKind.i64.wrap (s + s2) = sc) (k6 : IntKind.i64.wrap (sc - 6) = sc - 6) (sc0 : 0 ≤ sc) (sc12 : sc ≤ 12) (hmx : max (0 : Int) (sc - 6) = sc - 6) (hmn : min sc 6 = 6)
    (HA : Hid (∀ W, Calls Tryd.prog 29 #[.agg #[.int .i64 n, .int .i64 s]] W fun e w' => e = .returned (.int .u64 (A : Int)) ∧ Below W.heap.size W w'))
    (HB : Hid (∀ W, Calls Tryd.prog 29 #[.agg #[.int .i64 n2, .int .i64 s2]] W fun e w' => e = .returned (.int .u64 (B : Int)) ∧ Below W.heap.size W w'))
    (HP : Hid (∀ W, Calls Tryd.prog 30 #[.int .i64 (sc - 6)] W fun e w' => e = .returned (.int .u64 (P : Int)) ∧ Below W.heap.size W w'))
    (HM : Hid (∀ W, Calls Tryd.prog 28 #[.int .u64 (A : Int), .int .u64 (B : Int)] W fun e w' => e = .returned (.tuple #[.int .u64 (hi : Int), .int .u64 (lo : Int)]) ∧ Below W.heap.size W w'))
    (HE : Hid (∀ W, Calls Tryd.prog 31 #[.int .u64 (hi : Int), .int .u64 (lo : Int), .int .u64 (P : Int)] W fun e w' => e = .returned (.tuple #[.int .u64 0, .bool false]) ∧ Below W.heap.size W w')) (w : World) :
    Calls Tryd.prog 24 #[.agg #[.int .i64 n, .int .i64 s], .agg #[.int .i64 n2, .int .i64 s2]] w fun e w' => e = .returned (.tuple #[.agg #[.int .i64 (⟨0, 0, 3⟩ : Res).n, .int .i64 (⟨0, 0, 3⟩ : Res).s], .int .i64 (⟨0, 0, 3⟩ : Res).e]) ∧ Below w.heap.size w w' := by
  have hb0 := ((Blk.new w 23 #[.int .i64 n, .int .i64 s]).alloc (.cells #[.int .i64 n2, .int .i64 s2] 23)).alloc (.cells #[.int .i64 0, .int .i64 0] 23)
  have hb2 := (Blk.new' (w.alloc (.cells #[.int .i64 n, .int .i64 s] 23)) 23 #[.int .i64 n2, .int .i64 s2] (n := w.heap.size + 1) (by simp)).alloc (.cells #[.int .i64 0, .int .i64 0] 23)
  have hb1 := Blk.new' ((w.alloc (.cells #[.int .i64 n, .int .i64 s] 23)).alloc (.cells #[.int .i64 n2, .int .i64 s2] 23)) 23 #[.int .i64 0, .int .i64 0] (n := w.heap.size + 1 + 1) (by simp)
  go_enter Tryd.func24, Tryd.ntmps24
  go_wp2_with fail
  refine (HS.out _ _ _ (Blk.new' _ _ _ (by simp))).mono ?_
  rintro e w1 ⟨rfl, hb⟩
  replace hb0 := (hb0.alloc _).step hb
  replace hb2 := (hb2.alloc _).step hb
  replace hb1 := (hb1.alloc _).step hb
  have c0 := hb0.cell 0
  have c1 := hb0.cell 1
  have e0 := hb2.cell 0
  have e1 := hb2.cell 1
  simp at c0 c1 e0 e1
  go_wp2_with fail
  go_region_held3 (fun w' => (Blk w' (w.heap.size + 1 + 1) 23 #[.int .i64 0, .int .i64 0]) ∧ (Blk w' w.heap.size 23 #[.int .i64 n, .int .i64 s]) ∧ (Blk w' (w.heap.size + 1) 23 #[.int .i64 n2, .int .i64 s2]) ∧ (w'.cell? ⟨w.heap.size, 0, none⟩ = some (.int .i64 n) ∧ w'.cell? ⟨w.heap.size, 1, none⟩ = some (.int .i64 s)) ∧ w'.cell? ⟨w.heap.size + 1, 0, none⟩ = some (.int .i64 n2) ∧ w'.cell? ⟨w.heap.size + 1, 1, none⟩ = some (.int .i64 s2)) ((go_split_ands; (repeat' apply And.intro) <;> first | assumption | exact keep1 (by assumption) (by assumption) | exact Blk.step (by assumption) (by assumption)))
    (first
      | (go_at_call_of 29 (Value.agg #[Value.int .i64 n, Value.int .i64 s]); refine (HA.out _).mono ?_; rintro e w' ⟨rfl, hb'⟩)
      | (go_at_call_of 29 (Value.agg #[Value.int .i64 n2, Value.int .i64 s2]); refine (HB.out _).mono ?_; rintro e w' ⟨rfl, hb'⟩)
      | (go_at_call 28; refine (HM.out _).mono ?_; rintro e w' ⟨rfl, hb'⟩))
  all_goals
    go_split_ands
    go_wp2_with fail
    refine (HP.out _).mono ?_
    rintro e w3 ⟨rfl, hb3⟩
    have hr : Blk w3 (w.heap.size + 1 + 1) 23 #[.int .i64 0, .int .i64 0] := Blk.step (by assumption) hb3
    have hr0 : Blk w3 w.heap.size 23 #[.int .i64 n, .int .i64 s] := Blk.step (by assumption) hb3
    have hr2 : Blk w3 (w.heap.size + 1) 23 #[.int .i64 n2, .int .i64 s2] := Blk.step (by assumption) hb3
    go_wp2_with fail
    refine (HE.out _).mono ?_
    rintro e w4 ⟨rfl, hb4⟩
    replace hr := hr.step hb4
    go_wp2_with (first | (refine wpList_store_blk hr rfl _ _ _ (by rfl) _ (by rfl) (by rfl) (by (repeat (first | (with_reducible exact hr) | (with_reducible refine Blk.alloc ?_ _) | (with_reducible refine Blk.drew ?_) | (with_reducible refine Blk.far ?_ (by first | (simp; done) | (simp; omega)) _) | (with_reducible refine Blk.turn ?_ (by with_reducible assumption) (by omega))))) (by rfl) (by kernel_rfl) (by simp [Value.oneCell']) ?_; intro wt hrn ht))
    refine ret_blk2 rfl hrn rfl Tryd.underlying23 rfl (by kernel_rfl) rfl ?_
    exact ⟨rfl, by (repeat' (first | (with_reducible exact Below.refl _ _) | (with_reducible assumption) | (with_reducible refine balloc ?_ _) | (with_reducible refine Below.drew ?_) | (with_reducible refine bset ?_ ?_ _) | (with_reducible refine bstep ?_ (by with_reducible assumption)) | (with_reducible refine bturn ?_ (by with_reducible assumption) ?_) | go_size))⟩

set_option maxHeartbeats 4000000 in
set_option maxRecDepth 100000 in
theorem mul_near2 (n s n2 s2 : Int) (HS : Hid (∀ g c (w : World), Blk w g 23 #[.int .i64 n, .int .i64 s, .int .i64 n2, .int .i64 s2] → Calls Tryd.prog 27 #[.slice (some ⟨g, 0, none⟩) 2 c] w fun e w' => e = .returned (.int .i64 0) ∧ Below w.heap.size w w')) (A B P hi lo : Nat) (sc : Int) (k5 : IntKind.i64.wrap (s + s2) = sc) (k6 : IntKind.i64.wrap (sc - 6) = sc - 6) (sc0 : 0 ≤ sc) (sc12 : sc ≤ 12) (hmx : max (0 : Int) (sc - 6) = sc - 6) (hmn : min sc 6 = 6)
    (HA : Hid (∀ W, Calls Tryd.prog 29 #[.agg #[.int .i64 n, .int .i64 s]] W fun e w' => e = .returned (.int .u64 (A : Int)) ∧ Below W.heap.size W w'))
    (HB : Hid (∀ W, Calls Tryd.prog 29 #[.agg #[.int .i64 n2, .int .i64 s2]] W fun e w' => e = .returned (.int .u64 (B : Int)) ∧ Below W.heap.size W w'))
    (HP : Hid (∀ W, Calls Tryd.prog 30 #[.int .i64 (sc - 6)] W fun e w' => e = .returned (.int .u64 (P : Int)) ∧ Below W.heap.size W w'))
    (HM : Hid (∀ W, Calls Tryd.prog 28 #[.int .u64 (A : Int), .int .u64 (B : Int)] W fun e w' => e = .returned (.tuple #[.int .u64 (hi : Int), .int .u64 (lo : Int)]) ∧ Below W.heap.size W w')) (E : Nat) (p q : Bool) (r : Res) (hp : decide (n < 0) = p) (hq : decide (n2 < 0) = q)
    (HE : Hid (∀ W, Calls Tryd.prog 31 #[.int .u64 (hi : Int), .int .u64 (lo : Int), .int .u64 (P : Int)] W fun e w' => e = .returned (.tuple #[.int .u64 (E : Int), .bool true]) ∧ Below W.heap.size W w'))
    (HD : Hid (∀ W, Calls Tryd.prog 26 #[.agg #[.int .u64 (E : Int), .int .i64 6], .bool (p != q)] W fun e w' => e = .returned (.tuple #[.agg #[.int .i64 r.n, .int .i64 r.s], .int .i64 r.e]) ∧ Below W.heap.size W w')) (w : World) :
    Calls Tryd.prog 24 #[.agg #[.int .i64 n, .int .i64 s], .agg #[.int .i64 n2, .int .i64 s2]] w fun e w' => e = .returned (.tuple #[.agg #[.int .i64 r.n, .int .i64 r.s], .int .i64 r.e]) ∧ Below w.heap.size w w' := by
  have hb0 := ((Blk.new w 23 #[.int .i64 n, .int .i64 s]).alloc (.cells #[.int .i64 n2, .int .i64 s2] 23)).alloc (.cells #[.int .i64 0, .int .i64 0] 23)
  have hb2 := (Blk.new' (w.alloc (.cells #[.int .i64 n, .int .i64 s] 23)) 23 #[.int .i64 n2, .int .i64 s2] (n := w.heap.size + 1) (by simp)).alloc (.cells #[.int .i64 0, .int .i64 0] 23)
  have hb1 := Blk.new' ((w.alloc (.cells #[.int .i64 n, .int .i64 s] 23)).alloc (.cells #[.int .i64 n2, .int .i64 s2] 23)) 23 #[.int .i64 0, .int .i64 0] (n := w.heap.size + 1 + 1) (by simp)
  go_enter Tryd.func24, Tryd.ntmps24
  go_wp2_with fail
  refine (HS.out _ _ _ (Blk.new' _ _ _ (by simp))).mono ?_
  rintro e w1 ⟨rfl, hb⟩
  replace hb0 := (hb0.alloc _).step hb
  replace hb2 := (hb2.alloc _).step hb
  replace hb1 := (hb1.alloc _).step hb
  have c0 := hb0.cell 0
  have c1 := hb0.cell 1
  have e0 := hb2.cell 0
  have e1 := hb2.cell 1
  simp at c0 c1 e0 e1
  go_wp2_with fail
  go_region_held3 (fun w' => (Blk w' (w.heap.size + 1 + 1) 23 #[.int .i64 0, .int .i64 0]) ∧ (Blk w' w.heap.size 23 #[.int .i64 n, .int .i64 s]) ∧ (Blk w' (w.heap.size + 1) 23 #[.int .i64 n2, .int .i64 s2]) ∧ (w'.cell? ⟨w.heap.size, 0, none⟩ = some (.int .i64 n) ∧ w'.cell? ⟨w.heap.size, 1, none⟩ = some (.int .i64 s)) ∧ w'.cell? ⟨w.heap.size + 1, 0, none⟩ = some (.int .i64 n2) ∧ w'.cell? ⟨w.heap.size + 1, 1, none⟩ = some (.int .i64 s2)) ((go_split_ands; (repeat' apply And.intro) <;> first | assumption | exact keep1 (by assumption) (by assumption) | exact Blk.step (by assumption) (by assumption)))
    (first
      | (go_at_call_of 29 (Value.agg #[Value.int .i64 n, Value.int .i64 s]); refine (HA.out _).mono ?_; rintro e w' ⟨rfl, hb'⟩)
      | (go_at_call_of 29 (Value.agg #[Value.int .i64 n2, Value.int .i64 s2]); refine (HB.out _).mono ?_; rintro e w' ⟨rfl, hb'⟩)
      | (go_at_call 28; refine (HM.out _).mono ?_; rintro e w' ⟨rfl, hb'⟩))
  all_goals
    go_split_ands
    go_wp2_with fail
    refine (HP.out _).mono ?_
    rintro e w3 ⟨rfl, hb3⟩
    have hr : Blk w3 (w.heap.size + 1 + 1) 23 #[.int .i64 0, .int .i64 0] := Blk.step (by assumption) hb3
    have hr0 : Blk w3 w.heap.size 23 #[.int .i64 n, .int .i64 s] := Blk.step (by assumption) hb3
    have hr2 : Blk w3 (w.heap.size + 1) 23 #[.int .i64 n2, .int .i64 s2] := Blk.step (by assumption) hb3
    go_wp2_with fail
    refine (HE.out _).mono ?_
    rintro e w4 ⟨rfl, hb4⟩
    replace hr := hr.step hb4
    replace hr0 := hr0.step hb4
    replace hr2 := hr2.step hb4
    have f0 := hr0.cell 0
    have f2 := hr2.cell 0
    simp at f0 f2
    go_wp2_with fail
    refine (HD.out _).mono ?_
    rintro e w5 ⟨rfl, hb5⟩
    replace hr := hr.step hb5
    go_wp2_with (first | (refine wpList_store_blk hr rfl _ _ _ (by rfl) _ (by rfl) (by rfl) (by (repeat (first | (with_reducible exact hr) | (with_reducible refine Blk.alloc ?_ _) | (with_reducible refine Blk.drew ?_) | (with_reducible refine Blk.far ?_ (by first | (simp; done) | (simp; omega)) _) | (with_reducible refine Blk.turn ?_ (by with_reducible assumption) (by omega))))) (by rfl) (by kernel_rfl) (by simp [Value.oneCell']) ?_; intro wt hrn ht))
    refine ret_blk2 rfl hrn rfl Tryd.underlying23 rfl (by kernel_rfl) rfl ?_
    exact ⟨rfl, by (repeat' (first | (with_reducible exact Below.refl _ _) | (with_reducible assumption) | (with_reducible refine balloc ?_ _) | (with_reducible refine Below.drew ?_) | (with_reducible refine bset ?_ ?_ _) | (with_reducible refine bstep ?_ (by with_reducible assumption)) | (with_reducible refine bturn ?_ (by with_reducible assumption) ?_) | go_size))⟩

theorem power_int (k : Int) (P : Nat) (h0 : 0 ≤ k) (h1 : k ≤ 12) (hP : 10 ^ k.toNat = P) (w : World) : Calls Tryd.prog 30 #[.int .i64 k] w fun e w' => e = .returned (.int .u64 (P : Int)) ∧ Below w.heap.size w w' := by
  refine (power_any k h0 h1 w).mono ?_
  rintro e w' ⟨rfl, rfl⟩
  exact ⟨by rw [← hP]; rfl, by (repeat' (first | (with_reducible exact Below.refl _ _) | (with_reducible assumption) | (with_reducible refine balloc ?_ _) | (with_reducible refine Below.drew ?_) | (with_reducible refine bset ?_ ?_ _) | (with_reducible refine bstep ?_ (by with_reducible assumption)) | (with_reducible refine bturn ?_ (by with_reducible assumption) ?_) | go_size))⟩

theorem mul_any (n s n2 s2 : Int) (hn : I64 n) (hs : I64 s) (hn2 : I64 n2) (hs2 : I64 s2) (w : World) :
    Calls Tryd.prog 24 #[.agg #[.int .i64 n, .int .i64 s], .agg #[.int .i64 n2, .int .i64 s2]] w fun e w' => e = .returned (.tuple #[.agg #[.int .i64 (mulS n s n2 s2).n, .int .i64 (mulS n s n2 s2).s], .int .i64 (mulS n s n2 s2).e]) ∧ Below w.heap.size w w' := by
  have hall := fun g c w h => all_2 n s n2 s2 hn hs hn2 hs2 g c 23 w h
  by_cases h : (soundS n s && soundS n2 s2) = true
  · rw [if_pos h] at hall
    unfold mulS
    rw [if_pos h]
    have h' := h
    simp only [Bool.and_eq_true] at h'
    obtain ⟨b1, b2, b3, b4, _⟩ := sound_bd h'.1
    obtain ⟨d1, d2, d3, d4, _⟩ := sound_bd h'.2
    obtain ⟨A, hA⟩ := mag_ex n
    obtain ⟨B, hB⟩ := mag_ex n2
    have hA1 := mag_lt b3 b4 hA
    have hB1 := mag_lt d3 d4 hB
    obtain ⟨P, hP⟩ : ∃ P, 10 ^ (s + s2 - 6).toNat = P := ⟨_, rfl⟩
    have hP12 : P ≤ 1000000000000 := by rw [← hP, show 1000000000000 = 10 ^ 12 by decide]; exact Nat.pow_le_pow_right (by decide) (by omega)
    have hP0 : 0 < P := by rw [← hP]; exact t10 _
    rw [hA, hB, Int.toNat_natCast, Int.toNat_natCast, hP]
    have k5 : IntKind.i64.wrap (s + s2) = s + s2 := IntWalk.i64_in _ (by omega)
    have k6 : IntKind.i64.wrap (s + s2 - 6) = s + s2 - 6 := IntWalk.i64_in _ (by omega)
    obtain ⟨hi, hhi⟩ : ∃ hi, A * B / 18446744073709551616 = hi := ⟨_, rfl⟩
    obtain ⟨lo, hlo⟩ : ∃ lo, A * B % 18446744073709551616 = lo := ⟨_, rfl⟩
    rw [hhi]
    have hN : hi * 18446744073709551616 + lo = A * B := by omega
    have HA := Lib.hid (fun W => size_lit n s A b3 b4 hA W)
    have HB := Lib.hid (fun W => size_lit n2 s2 B d3 d4 hB W)
    have HM := Lib.hid (fun W => mul64_lit A B hi lo (by omega) (by omega) hhi hlo W)
    have hlo64 : lo < 18446744073709551616 := by omega
    have hEn : evenQ (A * B) P % 18446744073709551616 < 18446744073709551616 := Nat.mod_lt _ (by decide)
    by_cases h6 : s + s2 ≤ 6
    · have HP := Lib.hid (fun W => power_int 0 P (by omega) (by omega) (by rw [← hP]; congr 1; omega) W)
      by_cases hfar : P ≤ hi
      · rw [if_pos hfar]
        exact mul_far1 n s n2 s2 (Lib.hid hall) A B P hi lo (s + s2) k5 k6 (by omega) (by omega) (by omega) (by omega) HA HB HP HM (Lib.hid (fun W => even_far hi lo P hfar W)) w
      · rw [if_neg hfar]
        refine mul_near1 n s n2 s2 (Lib.hid hall) A B P hi lo (s + s2) k5 k6 (by omega) (by omega) (by omega) (by omega) HA HB HP HM (evenQ (A * B) P % 18446744073709551616) (decide (n < 0)) (decide (n2 < 0)) _ rfl rfl (Lib.hid (fun W => ?_)) (Lib.hid (fun W => ?_)) w
        · exact even_near hi lo P _ (by omega) (by omega) (by omega) (by rw [hN]) W
        · have := dec_any ((evenQ (A * B) P % 18446744073709551616 : Nat) : Int) (s + s2) (decide (n < 0) != decide (n2 < 0)) (by omega) (by omega) (by omega) (by omega) W
          rw [show (min (s + s2) 6) = (s + s2) by omega]
          exact this
    · have HP := Lib.hid (fun W => power_int (s + s2 - 6) P (by omega) (by omega) (by rw [← hP]) W)
      by_cases hfar : P ≤ hi
      · rw [if_pos hfar]
        exact mul_far2 n s n2 s2 (Lib.hid hall) A B P hi lo (s + s2) k5 k6 (by omega) (by omega) (by omega) (by omega) HA HB HP HM (Lib.hid (fun W => even_far hi lo P hfar W)) w
      · rw [if_neg hfar]
        refine mul_near2 n s n2 s2 (Lib.hid hall) A B P hi lo (s + s2) k5 k6 (by omega) (by omega) (by omega) (by omega) HA HB HP HM (evenQ (A * B) P % 18446744073709551616) (decide (n < 0)) (decide (n2 < 0)) _ rfl rfl (Lib.hid (fun W => ?_)) (Lib.hid (fun W => ?_)) w
        · exact even_near hi lo P _ (by omega) (by omega) (by omega) (by rw [hN]) W
        · have := dec_any ((evenQ (A * B) P % 18446744073709551616 : Nat) : Int) 6 (decide (n < 0) != decide (n2 < 0)) (by omega) (by omega) (by omega) (by omega) W
          rw [show (min (s + s2) 6) = 6 by omega]
          exact this
  · rw [if_neg h] at hall
    unfold mulS
    rw [if_neg h]
    exact mul_form n s n2 s2 (Lib.hid hall) w
end Go.Proofs.YteljkkfnnmikkaaDoor
