/- The walks of Div, at every two numbers. -/
import Derived.Test.YteljkkfnnmikkaaDoorDivG
namespace Go.Proofs.YteljkkfnnmikkaaDoor
open Go.RowKit
attribute [local go_sem high] run_dec_eql run_dec_neq

theorem div_form (n s n2 s2 : Int) (HS : Hid (∀ g c (w : World), Blk w g 23 #[.int .i64 n, .int .i64 s, .int .i64 n2, .int .i64 s2] → Calls Tryd.prog 27 #[.slice (some ⟨g, 0, none⟩) 2 c] w fun e w' => e = .returned (.int .i64 2) ∧ Below w.heap.size w w')) (w : World) :
    Calls Tryd.prog 14 #[.agg #[.int .i64 n, .int .i64 s], .agg #[.int .i64 n2, .int .i64 s2]] w fun e w' => e = .returned (.tuple #[.agg #[.int .i64 (⟨0, 0, 2⟩ : Res).n, .int .i64 (⟨0, 0, 2⟩ : Res).s], .int .i64 (⟨0, 0, 2⟩ : Res).e]) ∧ Below w.heap.size w w' := by
  have hb0 := ((Blk.new w 23 #[.int .i64 n, .int .i64 s]).alloc (.cells #[.int .i64 n2, .int .i64 s2] 23)).alloc (.cells #[.int .i64 0, .int .i64 0] 23)
  have hb2 := (Blk.new' (w.alloc (.cells #[.int .i64 n, .int .i64 s] 23)) 23 #[.int .i64 n2, .int .i64 s2] (n := w.heap.size + 1) (by simp)).alloc (.cells #[.int .i64 0, .int .i64 0] 23)
  have hb1 := Blk.new' ((w.alloc (.cells #[.int .i64 n, .int .i64 s] 23)).alloc (.cells #[.int .i64 n2, .int .i64 s2] 23)) 23 #[.int .i64 0, .int .i64 0] (n := w.heap.size + 1 + 1) (by simp)
  go_enter Tryd.func14, Tryd.ntmps14
  go_wp2_with fail
  refine (HS.out _ _ _ (Blk.new' _ _ _ (by simp))).mono ?_
  rintro e w1 ⟨rfl, hb⟩
  replace hb0 := (hb0.alloc _).step hb
  replace hb2 := (hb2.alloc _).step hb
  replace hb1 := (hb1.alloc _).step hb
  have c0 := hb0.cell 0
  have c1 := hb0.cell 1
  have e0 := hb2.cell 0
  have e1 := hb2.cell 1
  simp at c0 c1 e0 e1
  go_wp2_with (first | (refine wpList_store_blk hb1 rfl _ _ _ (by rfl) _ (by rfl) (by rfl) (by (repeat (first | (with_reducible exact hb1) | (with_reducible refine Blk.alloc ?_ _) | (with_reducible refine Blk.drew ?_) | (with_reducible refine Blk.far ?_ (by first | (simp; done) | (simp; omega)) _) | (with_reducible refine Blk.turn ?_ (by with_reducible assumption) (by omega))))) (by rfl) (by kernel_rfl) (by simp [Value.oneCell']) ?_; intro wt hb1n ht))
  refine ret_blk2 rfl hb1n rfl Tryd.underlying23 rfl (by kernel_rfl) rfl ?_
  exact ⟨rfl, by (repeat' (first | (with_reducible exact Below.refl _ _) | (with_reducible assumption) | (with_reducible refine balloc ?_ _) | (with_reducible refine Below.drew ?_) | (with_reducible refine bset ?_ ?_ _) | (with_reducible refine bstep ?_ (by with_reducible assumption)) | (with_reducible refine bturn ?_ (by with_reducible assumption) ?_) | go_size))⟩

theorem div_zero (n s n2 s2 : Int) (HS : Hid (∀ g c (w : World), Blk w g 23 #[.int .i64 n, .int .i64 s, .int .i64 n2, .int .i64 s2] → Calls Tryd.prog 27 #[.slice (some ⟨g, 0, none⟩) 2 c] w fun e w' => e = .returned (.int .i64 0) ∧ Below w.heap.size w w')) (hz : n2 = 0) (w : World) :
    Calls Tryd.prog 14 #[.agg #[.int .i64 n, .int .i64 s], .agg #[.int .i64 n2, .int .i64 s2]] w fun e w' => e = .returned (.tuple #[.agg #[.int .i64 (⟨0, 0, 4⟩ : Res).n, .int .i64 (⟨0, 0, 4⟩ : Res).s], .int .i64 (⟨0, 0, 4⟩ : Res).e]) ∧ Below w.heap.size w w' := by
  subst hz
  have hb0 := ((Blk.new w 23 #[.int .i64 n, .int .i64 s]).alloc (.cells #[.int .i64 0, .int .i64 s2] 23)).alloc (.cells #[.int .i64 0, .int .i64 0] 23)
  have hb2 := (Blk.new' (w.alloc (.cells #[.int .i64 n, .int .i64 s] 23)) 23 #[.int .i64 0, .int .i64 s2] (n := w.heap.size + 1) (by simp)).alloc (.cells #[.int .i64 0, .int .i64 0] 23)
  have hb1 := Blk.new' ((w.alloc (.cells #[.int .i64 n, .int .i64 s] 23)).alloc (.cells #[.int .i64 0, .int .i64 s2] 23)) 23 #[.int .i64 0, .int .i64 0] (n := w.heap.size + 1 + 1) (by simp)
  go_enter Tryd.func14, Tryd.ntmps14
  go_wp2_with fail
  refine (HS.out _ _ _ (Blk.new' _ _ _ (by simp))).mono ?_
  rintro e w1 ⟨rfl, hb⟩
  replace hb0 := (hb0.alloc _).step hb
  replace hb2 := (hb2.alloc _).step hb
  replace hb1 := (hb1.alloc _).step hb
  have c0 := hb0.cell 0
  have c1 := hb0.cell 1
  have e0 := hb2.cell 0
  have e1 := hb2.cell 1
  simp at c0 c1 e0 e1
  go_wp2_with (first | (refine wpList_store_blk hb1 rfl _ _ _ (by rfl) _ (by rfl) (by rfl) (by (repeat (first | (with_reducible exact hb1) | (with_reducible refine Blk.alloc ?_ _) | (with_reducible refine Blk.drew ?_) | (with_reducible refine Blk.far ?_ (by first | (simp; done) | (simp; omega)) _) | (with_reducible refine Blk.turn ?_ (by with_reducible assumption) (by omega))))) (by rfl) (by kernel_rfl) (by simp [Value.oneCell']) ?_; intro wt hb1n ht))
  refine ret_blk2 rfl hb1n rfl Tryd.underlying23 rfl (by kernel_rfl) rfl ?_
  exact ⟨rfl, by (repeat' (first | (with_reducible exact Below.refl _ _) | (with_reducible assumption) | (with_reducible refine balloc ?_ _) | (with_reducible refine Below.drew ?_) | (with_reducible refine bset ?_ ?_ _) | (with_reducible refine bstep ?_ (by with_reducible assumption)) | (with_reducible refine bturn ?_ (by with_reducible assumption) ?_) | go_size))⟩

set_option maxHeartbeats 4000000 in
set_option maxRecDepth 100000 in
theorem div_far (n s n2 s2 : Int) (HS : Hid (∀ g c (w : World), Blk w g 23 #[.int .i64 n, .int .i64 s, .int .i64 n2, .int .i64 s2] → Calls Tryd.prog 27 #[.slice (some ⟨g, 0, none⟩) 2 c] w fun e w' => e = .returned (.int .i64 0) ∧ Below w.heap.size w w')) (A B P K hi lo : Nat) (hz : ¬ n2 = 0) (k6 : IntKind.i64.wrap (6 - s) = 6 - s) (k7 : IntKind.i64.wrap (6 - s + s2) = (K : Int))
    (HA : Hid (∀ W, Calls Tryd.prog 29 #[.agg #[.int .i64 n, .int .i64 s]] W fun e w' => e = .returned (.int .u64 (A : Int)) ∧ Below W.heap.size W w'))
    (HB : Hid (∀ W, Calls Tryd.prog 29 #[.agg #[.int .i64 n2, .int .i64 s2]] W fun e w' => e = .returned (.int .u64 (B : Int)) ∧ Below W.heap.size W w'))
    (HP : Hid (∀ W, Calls Tryd.prog 30 #[.int .i64 (K : Int)] W fun e w' => e = .returned (.int .u64 (P : Int)) ∧ Below W.heap.size W w'))
    (HM : Hid (∀ W, Calls Tryd.prog 28 #[.int .u64 (A : Int), .int .u64 (P : Int)] W fun e w' => e = .returned (.tuple #[.int .u64 (hi : Int), .int .u64 (lo : Int)]) ∧ Below W.heap.size W w'))
    (HE : Hid (∀ W, Calls Tryd.prog 31 #[.int .u64 (hi : Int), .int .u64 (lo : Int), .int .u64 (B : Int)] W fun e w' => e = .returned (.tuple #[.int .u64 0, .bool false]) ∧ Below W.heap.size W w')) (w : World) :
    Calls Tryd.prog 14 #[.agg #[.int .i64 n, .int .i64 s], .agg #[.int .i64 n2, .int .i64 s2]] w fun e w' => e = .returned (.tuple #[.agg #[.int .i64 (⟨0, 0, 3⟩ : Res).n, .int .i64 (⟨0, 0, 3⟩ : Res).s], .int .i64 (⟨0, 0, 3⟩ : Res).e]) ∧ Below w.heap.size w w' := by
  have hb0 := ((Blk.new w 23 #[.int .i64 n, .int .i64 s]).alloc (.cells #[.int .i64 n2, .int .i64 s2] 23)).alloc (.cells #[.int .i64 0, .int .i64 0] 23)
  have hb2 := (Blk.new' (w.alloc (.cells #[.int .i64 n, .int .i64 s] 23)) 23 #[.int .i64 n2, .int .i64 s2] (n := w.heap.size + 1) (by simp)).alloc (.cells #[.int .i64 0, .int .i64 0] 23)
  have hb1 := Blk.new' ((w.alloc (.cells #[.int .i64 n, .int .i64 s] 23)).alloc (.cells #[.int .i64 n2, .int .i64 s2] 23)) 23 #[.int .i64 0, .int .i64 0] (n := w.heap.size + 1 + 1) (by simp)
  go_enter Tryd.func14, Tryd.ntmps14
  go_wp2_with fail
  refine (HS.out _ _ _ (Blk.new' _ _ _ (by simp))).mono ?_
  rintro e w1 ⟨rfl, hb⟩
  replace hb0 := (hb0.alloc _).step hb
  replace hb2 := (hb2.alloc _).step hb
  replace hb1 := (hb1.alloc _).step hb
  have c0 := hb0.cell 0
  have c1 := hb0.cell 1
  have e0 := hb2.cell 0
  have e1 := hb2.cell 1
  simp at c0 c1 e0 e1
  go_wp2_with fail
  go_region_held3 (fun w' => (Blk w' (w.heap.size + 1 + 1) 23 #[.int .i64 0, .int .i64 0]) ∧ (Blk w' w.heap.size 23 #[.int .i64 n, .int .i64 s]) ∧ (Blk w' (w.heap.size + 1) 23 #[.int .i64 n2, .int .i64 s2]) ∧ (w'.cell? ⟨w.heap.size, 0, none⟩ = some (.int .i64 n) ∧ w'.cell? ⟨w.heap.size, 1, none⟩ = some (.int .i64 s)) ∧ w'.cell? ⟨w.heap.size + 1, 0, none⟩ = some (.int .i64 n2) ∧ w'.cell? ⟨w.heap.size + 1, 1, none⟩ = some (.int .i64 s2)) ((go_split_ands; (repeat' apply And.intro) <;> first | assumption | exact keep1 (by assumption) (by assumption) | exact Blk.step (by assumption) (by assumption)))
    (first
      | (go_at_call 29; refine (HA.out _).mono ?_; rintro e w' ⟨rfl, hb'⟩)
      | (go_at_call 30; refine (HP.out _).mono ?_; rintro e w' ⟨rfl, hb'⟩)
      | (go_at_call 28; refine (HM.out _).mono ?_; rintro e w' ⟨rfl, hb'⟩))
  go_split_ands
  clear k6 k7
  go_wp2_with fail
  refine (HB.out _).mono ?_
  rintro e w3 ⟨rfl, hb3⟩
  have hr : Blk w3 (w.heap.size + 1 + 1) 23 #[.int .i64 0, .int .i64 0] := Blk.step (by assumption) hb3
  have hr0 : Blk w3 w.heap.size 23 #[.int .i64 n, .int .i64 s] := Blk.step (by assumption) hb3
  have hr2 : Blk w3 (w.heap.size + 1) 23 #[.int .i64 n2, .int .i64 s2] := Blk.step (by assumption) hb3
  go_wp2_with fail
  refine (HE.out _).mono ?_
  rintro e w4 ⟨rfl, hb4⟩
  replace hr := hr.step hb4
  go_wp2_with (first | (refine wpList_store_blk hr rfl _ _ _ (by rfl) _ (by rfl) (by rfl) (by (repeat (first | (with_reducible exact hr) | (with_reducible refine Blk.alloc ?_ _) | (with_reducible refine Blk.drew ?_) | (with_reducible refine Blk.far ?_ (by first | (simp; done) | (simp; omega)) _) | (with_reducible refine Blk.turn ?_ (by with_reducible assumption) (by omega))))) (by rfl) (by kernel_rfl) (by simp [Value.oneCell']) ?_; intro wt hrn ht))
  refine ret_blk2 rfl hrn rfl Tryd.underlying23 rfl (by kernel_rfl) rfl ?_
  exact ⟨rfl, by (repeat' (first | (with_reducible exact Below.refl _ _) | (with_reducible assumption) | (with_reducible refine balloc ?_ _) | (with_reducible refine Below.drew ?_) | (with_reducible refine bset ?_ ?_ _) | (with_reducible refine bstep ?_ (by with_reducible assumption)) | (with_reducible refine bturn ?_ (by with_reducible assumption) ?_) | go_size))⟩

set_option maxHeartbeats 4000000 in
set_option maxRecDepth 100000 in
theorem div_near (n s n2 s2 : Int) (HS : Hid (∀ g c (w : World), Blk w g 23 #[.int .i64 n, .int .i64 s, .int .i64 n2, .int .i64 s2] → Calls Tryd.prog 27 #[.slice (some ⟨g, 0, none⟩) 2 c] w fun e w' => e = .returned (.int .i64 0) ∧ Below w.heap.size w w')) (A B P K hi lo : Nat) (hz : ¬ n2 = 0) (k6 : IntKind.i64.wrap (6 - s) = 6 - s) (k7 : IntKind.i64.wrap (6 - s + s2) = (K : Int))
    (HA : Hid (∀ W, Calls Tryd.prog 29 #[.agg #[.int .i64 n, .int .i64 s]] W fun e w' => e = .returned (.int .u64 (A : Int)) ∧ Below W.heap.size W w'))
    (HB : Hid (∀ W, Calls Tryd.prog 29 #[.agg #[.int .i64 n2, .int .i64 s2]] W fun e w' => e = .returned (.int .u64 (B : Int)) ∧ Below W.heap.size W w'))
    (HP : Hid (∀ W, Calls Tryd.prog 30 #[.int .i64 (K : Int)] W fun e w' => e = .returned (.int .u64 (P : Int)) ∧ Below W.heap.size W w'))
    (HM : Hid (∀ W, Calls Tryd.prog 28 #[.int .u64 (A : Int), .int .u64 (P : Int)] W fun e w' => e = .returned (.tuple #[.int .u64 (hi : Int), .int .u64 (lo : Int)]) ∧ Below W.heap.size W w')) (E : Nat) (p q : Bool) (r : Res) (hp : decide (n < 0) = p) (hq : decide (n2 < 0) = q)
    (HE : Hid (∀ W, Calls Tryd.prog 31 #[.int .u64 (hi : Int), .int .u64 (lo : Int), .int .u64 (B : Int)] W fun e w' => e = .returned (.tuple #[.int .u64 (E : Int), .bool true]) ∧ Below W.heap.size W w'))
    (HD : Hid (∀ W, Calls Tryd.prog 26 #[.agg #[.int .u64 (E : Int), .int .i64 6], .bool (p != q)] W fun e w' => e = .returned (.tuple #[.agg #[.int .i64 r.n, .int .i64 r.s], .int .i64 r.e]) ∧ Below W.heap.size W w')) (w : World) :
    Calls Tryd.prog 14 #[.agg #[.int .i64 n, .int .i64 s], .agg #[.int .i64 n2, .int .i64 s2]] w fun e w' => e = .returned (.tuple #[.agg #[.int .i64 r.n, .int .i64 r.s], .int .i64 r.e]) ∧ Below w.heap.size w w' := by
  have hb0 := ((Blk.new w 23 #[.int .i64 n, .int .i64 s]).alloc (.cells #[.int .i64 n2, .int .i64 s2] 23)).alloc (.cells #[.int .i64 0, .int .i64 0] 23)
  have hb2 := (Blk.new' (w.alloc (.cells #[.int .i64 n, .int .i64 s] 23)) 23 #[.int .i64 n2, .int .i64 s2] (n := w.heap.size + 1) (by simp)).alloc (.cells #[.int .i64 0, .int .i64 0] 23)
  have hb1 := Blk.new' ((w.alloc (.cells #[.int .i64 n, .int .i64 s] 23)).alloc (.cells #[.int .i64 n2, .int .i64 s2] 23)) 23 #[.int .i64 0, .int .i64 0] (n := w.heap.size + 1 + 1) (by simp)
  go_enter Tryd.func14, Tryd.ntmps14
  go_wp2_with fail
  refine (HS.out _ _ _ (Blk.new' _ _ _ (by simp))).mono ?_
  rintro e w1 ⟨rfl, hb⟩
  replace hb0 := (hb0.alloc _).step hb
  replace hb2 := (hb2.alloc _).step hb
  replace hb1 := (hb1.alloc _).step hb
  have c0 := hb0.cell 0
  have c1 := hb0.cell 1
  have e0 := hb2.cell 0
  have e1 := hb2.cell 1
  simp at c0 c1 e0 e1
  go_wp2_with fail
  go_region_held3 (fun w' => (Blk w' (w.heap.size + 1 + 1) 23 #[.int .i64 0, .int .i64 0]) ∧ (Blk w' w.heap.size 23 #[.int .i64 n, .int .i64 s]) ∧ (Blk w' (w.heap.size + 1) 23 #[.int .i64 n2, .int .i64 s2]) ∧ (w'.cell? ⟨w.heap.size, 0, none⟩ = some (.int .i64 n) ∧ w'.cell? ⟨w.heap.size, 1, none⟩ = some (.int .i64 s)) ∧ w'.cell? ⟨w.heap.size + 1, 0, none⟩ = some (.int .i64 n2) ∧ w'.cell? ⟨w.heap.size + 1, 1, none⟩ = some (.int .i64 s2)) ((go_split_ands; (repeat' apply And.intro) <;> first | assumption | exact keep1 (by assumption) (by assumption) | exact Blk.step (by assumption) (by assumption)))
    (first
      | (go_at_call 29; refine (HA.out _).mono ?_; rintro e w' ⟨rfl, hb'⟩)
      | (go_at_call 30; refine (HP.out _).mono ?_; rintro e w' ⟨rfl, hb'⟩)
      | (go_at_call 28; refine (HM.out _).mono ?_; rintro e w' ⟨rfl, hb'⟩))
  go_split_ands
  clear k6 k7
  go_wp2_with fail
  refine (HB.out _).mono ?_
  rintro e w3 ⟨rfl, hb3⟩
  have hr : Blk w3 (w.heap.size + 1 + 1) 23 #[.int .i64 0, .int .i64 0] := Blk.step (by assumption) hb3
  have hr0 : Blk w3 w.heap.size 23 #[.int .i64 n, .int .i64 s] := Blk.step (by assumption) hb3
  have hr2 : Blk w3 (w.heap.size + 1) 23 #[.int .i64 n2, .int .i64 s2] := Blk.step (by assumption) hb3
  go_wp2_with fail
  refine (HE.out _).mono ?_
  rintro e w4 ⟨rfl, hb4⟩
  replace hr := hr.step hb4
  replace hr0 := hr0.step hb4
  replace hr2 := hr2.step hb4
  have f0 := hr0.cell 0
  have f2 := hr2.cell 0
  simp at f0 f2
  go_wp2_with fail
  refine (HD.out _).mono ?_
  rintro e w5 ⟨rfl, hb5⟩
  replace hr := hr.step hb5
  go_wp2_with (first | (refine wpList_store_blk hr rfl _ _ _ (by rfl) _ (by rfl) (by rfl) (by (repeat (first | (with_reducible exact hr) | (with_reducible refine Blk.alloc ?_ _) | (with_reducible refine Blk.drew ?_) | (with_reducible refine Blk.far ?_ (by first | (simp; done) | (simp; omega)) _) | (with_reducible refine Blk.turn ?_ (by with_reducible assumption) (by omega))))) (by rfl) (by kernel_rfl) (by simp [Value.oneCell']) ?_; intro wt hrn ht))
  refine ret_blk2 rfl hrn rfl Tryd.underlying23 rfl (by kernel_rfl) rfl ?_
  exact ⟨rfl, by (repeat' (first | (with_reducible exact Below.refl _ _) | (with_reducible assumption) | (with_reducible refine balloc ?_ _) | (with_reducible refine Below.drew ?_) | (with_reducible refine bset ?_ ?_ _) | (with_reducible refine bstep ?_ (by with_reducible assumption)) | (with_reducible refine bturn ?_ (by with_reducible assumption) ?_) | go_size))⟩

theorem size_lit (n s : Int) (A : Nat) (h0 : -999999999999 ≤ n) (h1 : n ≤ 999999999999) (hA : mag n = (A : Int)) (w : World) :
    Calls Tryd.prog 29 #[.agg #[.int .i64 n, .int .i64 s]] w fun e w' => e = .returned (.int .u64 (A : Int)) ∧ Below w.heap.size w w' := by
  refine (size_any n s h0 h1 w).mono ?_
  rintro e w' ⟨rfl, rfl⟩
  exact ⟨by rw [hA], by (repeat' (first | (with_reducible exact Below.refl _ _) | (with_reducible assumption) | (with_reducible refine balloc ?_ _) | (with_reducible refine Below.drew ?_) | (with_reducible refine bset ?_ ?_ _) | (with_reducible refine bstep ?_ (by with_reducible assumption)) | (with_reducible refine bturn ?_ (by with_reducible assumption) ?_) | go_size))⟩
theorem power_lit (K P : Nat) (hK : K ≤ 12) (hP : 10 ^ K = P) (w : World) : Calls Tryd.prog 30 #[.int .i64 (K : Int)] w fun e w' => e = .returned (.int .u64 (P : Int)) ∧ Below w.heap.size w w' := by
  refine (power_any (K : Int) (by omega) (by omega) w).mono ?_
  rintro e w' ⟨rfl, rfl⟩
  exact ⟨by rw [Int.toNat_natCast, ← hP]; rfl, by (repeat' (first | (with_reducible exact Below.refl _ _) | (with_reducible assumption) | (with_reducible refine balloc ?_ _) | (with_reducible refine Below.drew ?_) | (with_reducible refine bset ?_ ?_ _) | (with_reducible refine bstep ?_ (by with_reducible assumption)) | (with_reducible refine bturn ?_ (by with_reducible assumption) ?_) | go_size))⟩
theorem mul64_lit (x y hi lo : Nat) (hx : x < 18446744073709551616) (hy : y < 18446744073709551616) (h1 : x * y / 18446744073709551616 = hi) (h2 : x * y % 18446744073709551616 = lo) (w : World) :
    Calls Tryd.prog 28 #[.int .u64 (x : Int), .int .u64 (y : Int)] w fun e w' => e = .returned (.tuple #[.int .u64 (hi : Int), .int .u64 (lo : Int)]) ∧ Below w.heap.size w w' := by
  refine (Tryd.bits_Mul64 x y hx hy w).mono ?_
  rintro e w' ⟨rfl, rfl⟩
  exact ⟨by rw [h1, h2], by (repeat' (first | (with_reducible exact Below.refl _ _) | (with_reducible assumption) | (with_reducible refine balloc ?_ _) | (with_reducible refine Below.drew ?_) | (with_reducible refine bset ?_ ?_ _) | (with_reducible refine bstep ?_ (by with_reducible assumption)) | (with_reducible refine bturn ?_ (by with_reducible assumption) ?_) | go_size))⟩

theorem mag_lt {n : Int} {A : Nat} (b3 : -999999999999 ≤ n) (b4 : n ≤ 999999999999) (hA : mag n = (A : Int)) : A ≤ 999999999999 := by have := mag_bd b3 b4; omega
theorem mag_ex (n : Int) : ∃ A : Nat, mag n = (A : Int) := ⟨(mag n).toNat, (Int.toNat_of_nonneg (mag_nn n)).symm⟩

theorem div_any (n s n2 s2 : Int) (hn : I64 n) (hs : I64 s) (hn2 : I64 n2) (hs2 : I64 s2) (w : World) :
    Calls Tryd.prog 14 #[.agg #[.int .i64 n, .int .i64 s], .agg #[.int .i64 n2, .int .i64 s2]] w fun e w' => e = .returned (.tuple #[.agg #[.int .i64 (divS n s n2 s2).n, .int .i64 (divS n s n2 s2).s], .int .i64 (divS n s n2 s2).e]) ∧ Below w.heap.size w w' := by
  have hall := fun g c w h => all_2 n s n2 s2 hn hs hn2 hs2 g c 23 w h
  by_cases h : (soundS n s && soundS n2 s2) = true
  · rw [if_pos h] at hall
    unfold divS
    rw [if_pos h]
    have h' := h
    simp only [Bool.and_eq_true] at h'
    obtain ⟨b1, b2, b3, b4, _⟩ := sound_bd h'.1
    obtain ⟨d1, d2, d3, d4, _⟩ := sound_bd h'.2
    by_cases hz : n2 = 0
    · rw [if_pos hz]
      exact div_zero n s n2 s2 (Lib.hid hall) hz w
    · rw [if_neg hz]
      obtain ⟨A, hA⟩ := mag_ex n
      obtain ⟨B, hB⟩ := mag_ex n2
      obtain ⟨K, hK⟩ : ∃ K : Nat, 6 - s + s2 = (K : Int) := ⟨(6 - s + s2).toNat, by omega⟩
      have hA1 := mag_lt b3 b4 hA
      have hB1 := mag_lt d3 d4 hB
      have hB0 : 0 < B := by unfold mag at hB; split at hB <;> omega
      have k6 : IntKind.i64.wrap (6 - s) = 6 - s := IntWalk.i64_in _ (by omega)
      have k7 : IntKind.i64.wrap (6 - s + s2) = (K : Int) := by rw [hK]; exact IntWalk.i64_in _ (by omega)
      have hK12 : K ≤ 12 := by omega
      obtain ⟨P, hP⟩ : ∃ P, 10 ^ K = P := ⟨_, rfl⟩
      have hP12 : P ≤ 1000000000000 := by rw [← hP, show 1000000000000 = 10 ^ 12 by decide]; exact Nat.pow_le_pow_right (by decide) hK12
      rw [hA, hB, hK, Int.toNat_natCast, Int.toNat_natCast, Int.toNat_natCast, hP]
      obtain ⟨hi, hhi⟩ : ∃ hi, A * P / 18446744073709551616 = hi := ⟨_, rfl⟩
      obtain ⟨lo, hlo⟩ : ∃ lo, A * P % 18446744073709551616 = lo := ⟨_, rfl⟩
      have hN : hi * 18446744073709551616 + lo = A * P := by omega
      have HA := Lib.hid (fun W => size_lit n s A b3 b4 hA W)
      have HB := Lib.hid (fun W => size_lit n2 s2 B d3 d4 hB W)
      have HP := Lib.hid (fun W => power_lit K P hK12 hP W)
      have HM := Lib.hid (fun W => mul64_lit A P hi lo (by omega) (by omega) hhi hlo W)
      by_cases hfar : B ≤ hi
      · have hbig : 18446744073709551616 ≤ evenQ (A * P) B := by
          have h1 : 18446744073709551616 ≤ A * P / B := by
            rw [Nat.le_div_iff_mul_le hB0, ← hN]
            have := Nat.mul_le_mul_left 18446744073709551616 hfar
            omega
          unfold evenQ
          omega
        rw [dec_huge (by omega)]
        exact div_far n s n2 s2 (Lib.hid hall) A B P K hi lo hz k6 k7 HA HB HP HM (Lib.hid (fun W => even_far hi lo B hfar W)) w
      · have hE64 : evenQ (A * P) B < 18446744073709551616 := by
          rw [← hP]
          refine no_wrap hA1 hK12 hB0 ?_
          rw [hP, Nat.div_lt_iff_lt_mul hB0, ← hN]
          have := Nat.mul_le_mul_left 18446744073709551616 (show hi + 1 ≤ B by omega)
          omega
        refine div_near n s n2 s2 (Lib.hid hall) A B P K hi lo hz k6 k7 HA HB HP HM (evenQ (A * P) B) (decide (n < 0)) (decide (n2 < 0)) _ rfl rfl (Lib.hid (fun W => ?_)) (Lib.hid (fun W => ?_)) w
        · exact even_near hi lo B _ (by omega) (by omega) (by omega) (by rw [hN]; exact Nat.mod_eq_of_lt hE64) W
        · exact dec_any ((evenQ (A * P) B : Nat) : Int) 6 _ (by omega) (by omega) (by omega) (by omega) W
  · rw [if_neg h] at hall
    unfold divS
    rw [if_neg h]
    exact div_form n s n2 s2 (Lib.hid hall) w
end Go.Proofs.YteljkkfnnmikkaaDoor
