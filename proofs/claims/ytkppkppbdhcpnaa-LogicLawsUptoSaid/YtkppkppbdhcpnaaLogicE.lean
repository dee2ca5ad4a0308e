/- The walks of the laws LogicOne and LogicTwice. -/
import Derived.Test.YtkppkppbdhcpnaaLogicD
import Derived.Deep.RegionWith
namespace Go.Proofs.Ytkppkppbdhcpnaa
open Go.RowKit
attribute [local go_sem high] run_val_eql run_val_neq
attribute [local go_sem ↓] Go.wp_at_zero Go.wp_at_succ

theorem not_lit (a : Val) (w : World) : Calls Try.prog 12 #[.agg #[.int .i64 a.k, .int .i64 a.n, .int .i64 a.s, .string a.t, .int .i64 a.m]] w fun e w' => e = .returned (.agg #[.int .i64 (notS a).k, .int .i64 (notS a).n, .int .i64 (notS a).s, .string (notS a).t, .int .i64 (notS a).m]) ∧ Below w.heap.size w w' := not_any a w
theorem notref_lit (a : Val) (w : World) : Calls Try.prog 13 #[.agg #[.int .i64 a.k, .int .i64 a.n, .int .i64 a.s, .string a.t, .int .i64 a.m]] w fun e w' => e = .returned (.agg #[.int .i64 (notS a).k, .int .i64 (notS a).n, .int .i64 (notS a).s, .string (notS a).t, .int .i64 (notS a).m]) ∧ Below w.heap.size w w' := notref_any a w
theorem is_lit (a : Val) (w : World) : Calls Try.prog 14 #[.agg #[.int .i64 a.k, .int .i64 a.n, .int .i64 a.s, .string a.t, .int .i64 a.m]] w fun e w' => e = .returned (.bool (veq ⟨a.k, a.n, a.s, a.t, a.m⟩ ⟨3, 0, 0, ⟨#[]⟩, bit true⟩)) ∧ Below w.heap.size w w' := is_any a w

theorem is5 (k n s : Int) (t : ByteArray) (m : Int) (w : World) : Calls Try.prog 14 #[.agg #[.int .i64 k, .int .i64 n, .int .i64 s, .string t, .int .i64 m]] w fun e w' => e = .returned (.bool (veq ⟨k, n, s, t, m⟩ ⟨3, 0, 0, ⟨#[]⟩, bit true⟩)) ∧ Below w.heap.size w w' := is_any ⟨k, n, s, t, m⟩ w

set_option maxHeartbeats 4000000 in
theorem lawOne_any (a : Val) (b : Bool) (w : World) : Calls Try.prog 4 #[.agg #[.int .i64 a.k, .int .i64 a.n, .int .i64 a.s, .string a.t, .int .i64 a.m], .bool b] w fun e w' => e = .returned (.bool true) ∧ Below w.heap.size w w' := by
  go_enter Try.func4, Try.ntmps4
  go_wp2_with fail
  go_region_held3 (fun w' => w'.cell? ⟨w.heap.size, 0, none⟩ = some (.int .i64 a.k) ∧ w'.cell? ⟨w.heap.size, 1, none⟩ = some (.int .i64 a.n) ∧ w'.cell? ⟨w.heap.size, 2, none⟩ = some (.int .i64 a.s) ∧ w'.cell? ⟨w.heap.size, 3, none⟩ = some (.string a.t) ∧ w'.cell? ⟨w.heap.size, 4, none⟩ = some (.int .i64 a.m)) ((first | (simp [*, World.cell?_alloc_some, World.cell?_setCell_far]; done) | (go_split_ands; (repeat' apply And.intro) <;> first | assumption | exact keep1 (by assumption) (by assumption) | (simp [go_sem]; done) | (repeat (first | (with_reducible assumption) | (with_reducible refine keepd ?_) | (with_reducible refine keepa2 ?_))))))
    (first
      | (go_at_call 7; refine (awake_any _).mono ?_; rintro e w' ⟨rfl, hb⟩)
      | (go_at_call 12; refine (not_lit a _).mono ?_; rintro e w' ⟨rfl, hb⟩)
      | (go_at_call 13; refine (notref_lit a _).mono ?_; rintro e w' ⟨rfl, hb⟩)
      | (go_at_call 14; refine (is_lit a _).mono ?_; rintro e w' ⟨rfl, hb⟩)
      | (go_at_call 15; refine (rtruth_any _ _).mono ?_; rintro e w' ⟨rfl, c1, rfl⟩)
      | (go_at_call 16; refine (truth_any _ _).mono ?_; rintro e w' ⟨rfl, c1, c2, rfl⟩))
  go_wp2
  go_ret
  exact ⟨rfl, by (repeat' (first | (with_reducible exact Below.refl _ _) | (with_reducible assumption) | (with_reducible refine balloc ?_ _) | (with_reducible refine Below.drew ?_) | (with_reducible refine bset ?_ ?_ _) | (with_reducible refine bstep ?_ (by with_reducible assumption)) | go_size))⟩

/-- The three ways of a value. -/
theorem ways (a : Val) : (a = tv true) ∨ (a = tv false) ∨ (veq a (tv true) = false ∧ veq a (tv false) = false) := by
  by_cases h1 : veq a (tv true) = true
  · exact .inl (veq_iff.1 h1)
  · by_cases h2 : veq a (tv false) = true
    · exact .inr (.inl (veq_iff.1 h2))
    · exact .inr (.inr ⟨by simpa using h1, by simpa using h2⟩)
theorem not_true : notS (tv true) = tv false := by simp [notS, veq_tv]
theorem not_false' : notS (tv false) = tv true := by simp [notS, veq_tv]
theorem not_else {a : Val} (h1 : veq a (tv true) = false) (h2 : veq a (tv false) = false) : notS a = nul := by simp [notS, h1, h2]
theorem not_nul : notS nul = nul := by simp [notS, veq_nul]

set_option maxHeartbeats 4000000 in
theorem twice_core (a : Val) (w : World) (x y z : Bool)
    (t1 : veq ⟨a.k, a.n, a.s, a.t, a.m⟩ ⟨3, 0, 0, ⟨#[]⟩, bit true⟩ = x) (t2 : veq ⟨a.k, a.n, a.s, a.t, a.m⟩ ⟨3, 0, 0, ⟨#[]⟩, bit false⟩ = y)
    (t3 : (x || y) = true → veq ⟨(notS (notS a)).k, (notS (notS a)).n, (notS (notS a)).s, (notS (notS a)).t, (notS (notS a)).m⟩ ⟨a.k, a.n, a.s, a.t, a.m⟩ = true)
    (t4 : veq ⟨(notS a).k, (notS a).n, (notS a).s, (notS a).t, (notS a).m⟩ ⟨3, 0, 0, ⟨#[]⟩, bit true⟩ = z) (t6 : (x || y) = true → z = !x)
    (t5 : (x || y) = false → veq ⟨(notS (notS a)).k, (notS (notS a)).n, (notS (notS a)).s, (notS (notS a)).t, (notS (notS a)).m⟩ ⟨0, 0, 0, ⟨#[]⟩, 0⟩ = true) :
    Calls Try.prog 6 #[.agg #[.int .i64 a.k, .int .i64 a.n, .int .i64 a.s, .string a.t, .int .i64 a.m]] w fun e w' => e = .returned (.bool true) ∧ Below w.heap.size w w' := by
  cases x <;> cases y <;> simp at t3 t5 t6
  all_goals
    go_enter Try.func6, Try.ntmps6
    go_wp2_with fail
    refine (not_lit a _).mono ?_
    rintro e w1 ⟨rfl, hb1⟩
    go_wp2_with fail
    refine (not_lit (notS a) _).mono ?_
    rintro e w2 ⟨rfl, hb2⟩
    have f0 : w2.cell? ⟨w.heap.size, 0, none⟩ = some (.int .i64 a.k) := keep1 (bstep hb1 hb2) (by simp [go_sem]); have f1 : w2.cell? ⟨w.heap.size, 1, none⟩ = some (.int .i64 a.n) := keep1 (bstep hb1 hb2) (by simp [go_sem]); have f2 : w2.cell? ⟨w.heap.size, 2, none⟩ = some (.int .i64 a.s) := keep1 (bstep hb1 hb2) (by simp [go_sem]); have f3 : w2.cell? ⟨w.heap.size, 3, none⟩ = some (.string a.t) := keep1 (bstep hb1 hb2) (by simp [go_sem]); have f4 : w2.cell? ⟨w.heap.size, 4, none⟩ = some (.int .i64 a.m) := keep1 (bstep hb1 hb2) (by simp [go_sem])
    go_wp2_with fail
  · go_region_held3 (fun w' => (w'.cell? ⟨w.heap.size, 0, none⟩ = some (.int .i64 a.k) ∧ w'.cell? ⟨w.heap.size, 1, none⟩ = some (.int .i64 a.n) ∧ w'.cell? ⟨w.heap.size, 2, none⟩ = some (.int .i64 a.s) ∧ w'.cell? ⟨w.heap.size, 3, none⟩ = some (.string a.t) ∧ w'.cell? ⟨w.heap.size, 4, none⟩ = some (.int .i64 a.m)) ∧ w'.cell? ⟨w2.heap.size, 0, none⟩ = some (.int .i64 (notS (notS a)).k) ∧ w'.cell? ⟨w2.heap.size, 1, none⟩ = some (.int .i64 (notS (notS a)).n) ∧ w'.cell? ⟨w2.heap.size, 2, none⟩ = some (.int .i64 (notS (notS a)).s) ∧ w'.cell? ⟨w2.heap.size, 3, none⟩ = some (.string (notS (notS a)).t) ∧ w'.cell? ⟨w2.heap.size, 4, none⟩ = some (.int .i64 (notS (notS a)).m)) ((first | (simp [*, World.cell?_alloc_some, World.cell?_setCell_far]; done) | (go_split_ands; (repeat' apply And.intro) <;> first | assumption | exact keep1 (by assumption) (by assumption) | (simp [go_sem]; done) | (repeat (first | (with_reducible assumption) | (with_reducible refine keepd ?_) | (with_reducible refine keepa2 ?_))))))
      (first
      | (go_at_call 7; refine (awake_any _).mono ?_; rintro e w' ⟨rfl, hb⟩)
      | (go_at_call 12; refine (not_lit a _).mono ?_; rintro e w' ⟨rfl, hb⟩)
      | (go_at_call 14; refine (is5 _ _ _ _ _ _).mono ?_; rintro e w' ⟨rfl, hb⟩)
      | (go_at_call 16; refine (truth_any _ _).mono ?_; rintro e w' ⟨rfl, c1, c2, rfl⟩))
    all_goals
      go_split_ands
      go_wp2_with fail
      refine (awake_any _).mono ?_
      rintro e w4 ⟨rfl, hb4⟩
      have g0 : w4.cell? ⟨w.heap.size, 0, none⟩ = some (.int .i64 a.k) := keep1 hb4 (by assumption); have g1 : w4.cell? ⟨w.heap.size, 1, none⟩ = some (.int .i64 a.n) := keep1 hb4 (by assumption); have g2 : w4.cell? ⟨w.heap.size, 2, none⟩ = some (.int .i64 a.s) := keep1 hb4 (by assumption); have g3 : w4.cell? ⟨w.heap.size, 3, none⟩ = some (.string a.t) := keep1 hb4 (by assumption); have g4 : w4.cell? ⟨w.heap.size, 4, none⟩ = some (.int .i64 a.m) := keep1 hb4 (by assumption)
      have i0 : w4.cell? ⟨w2.heap.size, 0, none⟩ = some (.int .i64 (notS (notS a)).k) := keep1 hb4 (by assumption); have i1 : w4.cell? ⟨w2.heap.size, 1, none⟩ = some (.int .i64 (notS (notS a)).n) := keep1 hb4 (by assumption); have i2 : w4.cell? ⟨w2.heap.size, 2, none⟩ = some (.int .i64 (notS (notS a)).s) := keep1 hb4 (by assumption); have i3 : w4.cell? ⟨w2.heap.size, 3, none⟩ = some (.string (notS (notS a)).t) := keep1 hb4 (by assumption); have i4 : w4.cell? ⟨w2.heap.size, 4, none⟩ = some (.int .i64 (notS (notS a)).m) := keep1 hb4 (by assumption)
      go_wp2_with (go_at_call 14; refine (is_lit a _).mono ?_; rintro e w5 ⟨rfl, hb5⟩)
      go_ret
      exact ⟨rfl, by (repeat' (first | (with_reducible exact Below.refl _ _) | (with_reducible assumption) | (with_reducible refine balloc ?_ _) | (with_reducible refine Below.drew ?_) | (with_reducible refine bset ?_ ?_ _) | (with_reducible refine bstep ?_ (by with_reducible assumption)) | go_size))⟩
  · go_region_held3 (fun w' => (w'.cell? ⟨w.heap.size, 0, none⟩ = some (.int .i64 a.k) ∧ w'.cell? ⟨w.heap.size, 1, none⟩ = some (.int .i64 a.n) ∧ w'.cell? ⟨w.heap.size, 2, none⟩ = some (.int .i64 a.s) ∧ w'.cell? ⟨w.heap.size, 3, none⟩ = some (.string a.t) ∧ w'.cell? ⟨w.heap.size, 4, none⟩ = some (.int .i64 a.m)) ∧ w'.cell? ⟨w2.heap.size, 0, none⟩ = some (.int .i64 (notS (notS a)).k) ∧ w'.cell? ⟨w2.heap.size, 1, none⟩ = some (.int .i64 (notS (notS a)).n) ∧ w'.cell? ⟨w2.heap.size, 2, none⟩ = some (.int .i64 (notS (notS a)).s) ∧ w'.cell? ⟨w2.heap.size, 3, none⟩ = some (.string (notS (notS a)).t) ∧ w'.cell? ⟨w2.heap.size, 4, none⟩ = some (.int .i64 (notS (notS a)).m)) ((first | (simp [*, World.cell?_alloc_some, World.cell?_setCell_far]; done) | (go_split_ands; (repeat' apply And.intro) <;> first | assumption | exact keep1 (by assumption) (by assumption) | (simp [go_sem]; done) | (repeat (first | (with_reducible assumption) | (with_reducible refine keepd ?_) | (with_reducible refine keepa2 ?_))))))
      (first
      | (go_at_call 7; refine (awake_any _).mono ?_; rintro e w' ⟨rfl, hb⟩)
      | (go_at_call 12; refine (not_lit a _).mono ?_; rintro e w' ⟨rfl, hb⟩)
      | (go_at_call 14; refine (is5 _ _ _ _ _ _).mono ?_; rintro e w' ⟨rfl, hb⟩)
      | (go_at_call 16; refine (truth_any _ _).mono ?_; rintro e w' ⟨rfl, c1, c2, rfl⟩))
    all_goals
      go_split_ands
      go_wp2_with fail
      go_region_held3 (fun w' => (w'.cell? ⟨w.heap.size, 0, none⟩ = some (.int .i64 a.k) ∧ w'.cell? ⟨w.heap.size, 1, none⟩ = some (.int .i64 a.n) ∧ w'.cell? ⟨w.heap.size, 2, none⟩ = some (.int .i64 a.s) ∧ w'.cell? ⟨w.heap.size, 3, none⟩ = some (.string a.t) ∧ w'.cell? ⟨w.heap.size, 4, none⟩ = some (.int .i64 a.m)) ∧ w'.cell? ⟨w2.heap.size, 0, none⟩ = some (.int .i64 (notS (notS a)).k) ∧ w'.cell? ⟨w2.heap.size, 1, none⟩ = some (.int .i64 (notS (notS a)).n) ∧ w'.cell? ⟨w2.heap.size, 2, none⟩ = some (.int .i64 (notS (notS a)).s) ∧ w'.cell? ⟨w2.heap.size, 3, none⟩ = some (.string (notS (notS a)).t) ∧ w'.cell? ⟨w2.heap.size, 4, none⟩ = some (.int .i64 (notS (notS a)).m)) ((first | (simp [*, World.cell?_alloc_some, World.cell?_setCell_far]; done) | (go_split_ands; (repeat' apply And.intro) <;> first | assumption | exact keep1 (by assumption) (by assumption) | (simp [go_sem]; done) | (repeat (first | (with_reducible assumption) | (with_reducible refine keepd ?_) | (with_reducible refine keepa2 ?_))))))
        (first
        | (go_at_call 7; refine (awake_any _).mono ?_; rintro e w' ⟨rfl, hb⟩)
        | (go_at_call 12; refine (not_lit a _).mono ?_; rintro e w' ⟨rfl, hb⟩)
        | (go_at_call 14; refine (is_lit a _).mono ?_; rintro e w' ⟨rfl, hb⟩)
        | (go_at_call 14; refine (is_lit (notS a) _).mono ?_; rintro e w' ⟨rfl, hb⟩)
        | (go_at_call 16; refine (truth_any _ _).mono ?_; rintro e w' ⟨rfl, c1, c2, rfl⟩))
      go_wp2_with fail
      go_ret
      exact ⟨rfl, by (repeat' (first | (with_reducible exact Below.refl _ _) | (with_reducible assumption) | (with_reducible refine balloc ?_ _) | (with_reducible refine Below.drew ?_) | (with_reducible refine bset ?_ ?_ _) | (with_reducible refine bstep ?_ (by with_reducible assumption)) | go_size))⟩
  · have hl : w.heap.size < w2.heap.size := block_lt_of_cell f0
    have hll := lts hl
    go_region_with (go_at_call 16; refine (truth_any _ _).mono ?_; rintro e w' ⟨rfl, c1, c2, rfl⟩)
    all_goals
      go_split_ands
      go_wp2_with fail
      go_region_held3 (fun w' => (w'.cell? ⟨w.heap.size, 0, none⟩ = some (.int .i64 a.k) ∧ w'.cell? ⟨w.heap.size, 1, none⟩ = some (.int .i64 a.n) ∧ w'.cell? ⟨w.heap.size, 2, none⟩ = some (.int .i64 a.s) ∧ w'.cell? ⟨w.heap.size, 3, none⟩ = some (.string a.t) ∧ w'.cell? ⟨w.heap.size, 4, none⟩ = some (.int .i64 a.m)) ∧ w'.cell? ⟨w2.heap.size, 0, none⟩ = some (.int .i64 (notS (notS a)).k) ∧ w'.cell? ⟨w2.heap.size, 1, none⟩ = some (.int .i64 (notS (notS a)).n) ∧ w'.cell? ⟨w2.heap.size, 2, none⟩ = some (.int .i64 (notS (notS a)).s) ∧ w'.cell? ⟨w2.heap.size, 3, none⟩ = some (.string (notS (notS a)).t) ∧ w'.cell? ⟨w2.heap.size, 4, none⟩ = some (.int .i64 (notS (notS a)).m)) ((first | (simp [*, World.cell?_alloc_some, World.cell?_setCell_far]; done) | (go_split_ands; (repeat' apply And.intro) <;> first | assumption | exact keep1 (by assumption) (by assumption) | (simp [go_sem]; done) | (repeat (first | (with_reducible assumption) | (with_reducible refine keepd ?_) | (with_reducible refine keepa2 ?_))))))
        (first
        | (go_at_call 7; refine (awake_any _).mono ?_; rintro e w' ⟨rfl, hb⟩)
        | (go_at_call 12; refine (not_lit a _).mono ?_; rintro e w' ⟨rfl, hb⟩)
        | (go_at_call 14; refine (is_lit a _).mono ?_; rintro e w' ⟨rfl, hb⟩)
        | (go_at_call 14; refine (is_lit (notS a) _).mono ?_; rintro e w' ⟨rfl, hb⟩)
        | (go_at_call 16; refine (truth_any _ _).mono ?_; rintro e w' ⟨rfl, c1, c2, rfl⟩))
      go_wp2_with fail
      go_ret
      exact ⟨rfl, by (repeat' (first | (with_reducible exact Below.refl _ _) | (with_reducible assumption) | (with_reducible refine balloc ?_ _) | (with_reducible refine Below.drew ?_) | (with_reducible refine bset ?_ ?_ _) | (with_reducible refine bstep ?_ (by with_reducible assumption)) | go_size))⟩
  · have hl : w.heap.size < w2.heap.size := block_lt_of_cell f0
    have hll := lts hl
    go_region_with (go_at_call 16; refine (truth_any _ _).mono ?_; rintro e w' ⟨rfl, c1, c2, rfl⟩)
    all_goals
      go_split_ands
      go_wp2_with fail
      go_region_held3 (fun w' => (w'.cell? ⟨w.heap.size, 0, none⟩ = some (.int .i64 a.k) ∧ w'.cell? ⟨w.heap.size, 1, none⟩ = some (.int .i64 a.n) ∧ w'.cell? ⟨w.heap.size, 2, none⟩ = some (.int .i64 a.s) ∧ w'.cell? ⟨w.heap.size, 3, none⟩ = some (.string a.t) ∧ w'.cell? ⟨w.heap.size, 4, none⟩ = some (.int .i64 a.m)) ∧ w'.cell? ⟨w2.heap.size, 0, none⟩ = some (.int .i64 (notS (notS a)).k) ∧ w'.cell? ⟨w2.heap.size, 1, none⟩ = some (.int .i64 (notS (notS a)).n) ∧ w'.cell? ⟨w2.heap.size, 2, none⟩ = some (.int .i64 (notS (notS a)).s) ∧ w'.cell? ⟨w2.heap.size, 3, none⟩ = some (.string (notS (notS a)).t) ∧ w'.cell? ⟨w2.heap.size, 4, none⟩ = some (.int .i64 (notS (notS a)).m)) ((first | (simp [*, World.cell?_alloc_some, World.cell?_setCell_far]; done) | (go_split_ands; (repeat' apply And.intro) <;> first | assumption | exact keep1 (by assumption) (by assumption) | (simp [go_sem]; done) | (repeat (first | (with_reducible assumption) | (with_reducible refine keepd ?_) | (with_reducible refine keepa2 ?_))))))
        (first
        | (go_at_call 7; refine (awake_any _).mono ?_; rintro e w' ⟨rfl, hb⟩)
        | (go_at_call 12; refine (not_lit a _).mono ?_; rintro e w' ⟨rfl, hb⟩)
        | (go_at_call 14; refine (is_lit a _).mono ?_; rintro e w' ⟨rfl, hb⟩)
        | (go_at_call 14; refine (is_lit (notS a) _).mono ?_; rintro e w' ⟨rfl, hb⟩)
        | (go_at_call 16; refine (truth_any _ _).mono ?_; rintro e w' ⟨rfl, c1, c2, rfl⟩))
      go_wp2_with fail
      go_ret
      exact ⟨rfl, by (repeat' (first | (with_reducible exact Below.refl _ _) | (with_reducible assumption) | (with_reducible refine balloc ?_ _) | (with_reducible refine Below.drew ?_) | (with_reducible refine bset ?_ ?_ _) | (with_reducible refine bstep ?_ (by with_reducible assumption)) | go_size))⟩
end Go.Proofs.Ytkppkppbdhcpnaa
