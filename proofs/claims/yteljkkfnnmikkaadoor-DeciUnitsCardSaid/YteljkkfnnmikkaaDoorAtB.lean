/- The walk of At: a sound number, a scale from 0 to 6. -/
import Derived.Test.YteljkkfnnmikkaaDoorAtA
namespace Go.Proofs.YteljkkfnnmikkaaDoor
open Go.RowKit
attribute [local go_sem high] run_dec_eql run_dec_neq

theorem units_eq {n s u : Int} (hu : unitsS n s = u) (b1 : -999999999999 ≤ n) (b2 : n ≤ 999999999999) (b3 : 0 ≤ s) (b4 : s ≤ 6) (w : World) :
    Calls Tryd.prog 42 #[.agg #[.int .i64 n, .int .i64 s]] w fun e w' => e = .returned (.int .i64 u) ∧ Below w.heap.size w w' := hu ▸ units_lit n s b1 b2 b3 b4 w
theorem power_eq {c B : Int} (hB : p10 c.toNat = B) (h0 : 0 ≤ c) (h1 : c ≤ 12) (w : World) :
    Calls Tryd.prog 30 #[.int .i64 c] w fun e w' => e = .returned (.int .u64 B) ∧ w = w' := hB ▸ power_any c h0 h1 w

/-- Go's quotient, one less where something below 0 is left, is the floor. -/
theorem floor_of {u B : Int} (hB : 0 < B) : (if u.tmod B < 0 then u.tdiv B - 1 else u.tdiv B) = u / B ∧ (u.tmod B = 0 ↔ u % B = 0) ∧ -B < u.tmod B ∧ u.tmod B < B := by
  by_cases h : 0 ≤ u
  · rw [Int.tdiv_eq_ediv_of_nonneg h, Int.tmod_eq_emod_of_nonneg h]
    have h1 := Int.emod_nonneg u (b := B) (by omega)
    have h2 := Int.emod_lt_of_pos u hB
    rw [if_neg (by omega)]
    exact ⟨rfl, Iff.rfl, by omega, h2⟩
  · obtain ⟨v, rfl⟩ : ∃ v, u = -v := ⟨-u, by omega⟩
    have hv : 0 ≤ v := by omega
    rw [Int.neg_tdiv, Int.neg_tmod, Int.tdiv_eq_ediv_of_nonneg hv, Int.tmod_eq_emod_of_nonneg hv]
    have h1 := Int.emod_nonneg v (b := B) (by omega)
    have h2 := Int.emod_lt_of_pos v hB
    have h3 := Int.mul_ediv_add_emod v B
    by_cases hz : v % B = 0
    · have := (Int.ediv_emod_unique (a := -v) (b := B) (q := -(v / B)) (r := 0) hB).2 ⟨by rw [Int.mul_neg]; omega, by omega, hB⟩
      rw [if_neg (by omega), this.1, this.2]
      exact ⟨rfl, by omega, by omega, by omega⟩
    · have := (Int.ediv_emod_unique (a := -v) (b := B) (q := -(v / B) - 1) (r := B - v % B) hB).2 ⟨by rw [Int.mul_sub, Int.mul_neg]; omega, by omega, by omega⟩
      rw [if_pos (by omega), this.1, this.2]
      exact ⟨rfl, by omega, by omega, by omega⟩

theorem tdiv_bd {u B : Int} (hB : 0 < B) (h0 : -1000000000000000000 ≤ u) (h1 : u ≤ 1000000000000000000) : -1000000000000000000 ≤ u.tdiv B ∧ u.tdiv B ≤ 1000000000000000000 := by
  by_cases h : 0 ≤ u
  · rw [Int.tdiv_eq_ediv_of_nonneg h]
    have := Int.ediv_le_self B h
    have := Int.ediv_nonneg h (Int.le_of_lt hB)
    omega
  · obtain ⟨v, rfl⟩ : ∃ v, u = -v := ⟨-u, by omega⟩
    have hv : 0 ≤ v := by omega
    rw [Int.neg_tdiv, Int.tdiv_eq_ediv_of_nonneg hv]
    have := Int.ediv_le_self B hv
    have := Int.ediv_nonneg hv (Int.le_of_lt hB)
    omega

set_option maxHeartbeats 1000000 in
set_option maxRecDepth 100000 in
theorem at_core (n s c u B q r : Int) (hn : I64 n) (hs : I64 s) (h0 : 0 ≤ c) (h1 : c ≤ 6) (hf : soundS n s = true) (hu : unitsS n s = u) (hB : p10 (6 - c).toNat = B) (u0 : -1000000000000000000 ≤ u) (u1 : u ≤ 1000000000000000000) (B0 : 0 < B) (B1 : B ≤ 1000000) (hq : u.tdiv B = q) (hr : u.tmod B = r) (q0 : -1000000000000000000 ≤ q) (q1 : q ≤ 1000000000000000000) (r0 : -B < r) (r1 : r < B) (w : World) :
    Calls Tryd.prog 20 #[.agg #[.int .i64 n, .int .i64 s], .int .i64 c] w fun e w' => e = .returned (.tuple #[.int .i64 (if r < 0 then q - 1 else q), .bool (r == 0), .int .i64 0]) ∧ Below w.heap.size w w' := by
  have HN : Hid (I64 n ∧ I64 s) := ⟨hn, hs⟩
  have HU := Lib.hid hu
  have HB := Lib.hid hB
  clear hn hs hu hB
  obtain ⟨b1, b2, b3, b4, _⟩ := sound_bd hf
  have hb0 := Blk.new w 23 #[.int .i64 n, .int .i64 s]
  have k6 : IntKind.i64.wrap (6 - c) = 6 - c := IntWalk.i64_in _ (by omega)
  have kp : IntKind.i64.wrap B = B := IntWalk.i64_in _ (by omega)
  have kq : IntKind.i64.wrap q = q := IntWalk.i64_in _ (by omega)
  have bz : ¬ B = 0 := by omega
  have kr : IntKind.i64.wrap r = r := IntWalk.i64_in _ (by omega)
  by_cases hneg : r < 0
  · rw [if_pos hneg]
    go_enter Tryd.func20, Tryd.ntmps20
    go_wp2_with fail
    refine (all_1 n s HN.out.1 HN.out.2 _ _ 23 _ (Blk.new' _ _ _ (by simp))).mono ?_
    rintro e w1 ⟨rfl, hb⟩
    replace hb0 := (hb0.alloc _).step hb
    rw [if_pos hf]
    clear hf
    go_wp2_with fail
    refine (power_eq HB.out (by omega) (by omega) _).mono ?_
    rintro e w2 ⟨rfl, rfl⟩
    have c0 := hb0.cell 0
    have c1 := hb0.cell 1
    simp at c0 c1
    clear k6
    go_wp2_with fail
    refine (units_eq HU.out b3 b4 b1 b2 _).mono ?_
    rintro e w3 ⟨rfl, hb3⟩
    replace hb0 := hb0.step hb3
    have d0 := hb0.cell 0
    have d1 := hb0.cell 1
    simp at d0 d1
    clear c0 c1
    go_wp2_with fail
    refine (units_eq HU.out b3 b4 b1 b2 _).mono ?_
    rintro e w4 ⟨rfl, hb4⟩
    replace hb0 := hb0.step hb4
    have e0 := hb0.cell 0
    have e1 := hb0.cell 1
    simp at e0 e1
    clear d0 d1
    go_wp2_with fail
    go_region_held3 (fun w' => w'.cell? ⟨w.heap.size, 0, none⟩ = some (.int .i64 n) ∧ w'.cell? ⟨w.heap.size, 1, none⟩ = some (.int .i64 s)) ((first | (simp [*, World.cell?_alloc_some, World.cell?_setCell_far]; done) | (go_split_ands; (repeat' apply And.intro) <;> first | assumption | exact keep1 (by assumption) (by assumption) | (simp [go_sem]; done) | (repeat (first | (with_reducible assumption) | (with_reducible refine keepd ?_) | (with_reducible refine keepa2 ?_))))))
      (first
        | (go_at_call 42; refine (units_eq HU.out (by assumption) (by assumption) (by assumption) (by assumption) _).mono ?_; rintro e w' ⟨rfl, hb'⟩))
    go_wp2_with fail
    go_returns
    exact ⟨rfl, by (repeat' (first | (with_reducible exact Below.refl _ _) | (with_reducible assumption) | (with_reducible refine balloc ?_ _) | (with_reducible refine Below.drew ?_) | (with_reducible refine bset ?_ ?_ _) | (with_reducible refine bstep ?_ (by with_reducible assumption)) | (with_reducible refine bturn ?_ (by with_reducible assumption) ?_) | go_size))⟩
  · rw [if_neg hneg]
    go_enter Tryd.func20, Tryd.ntmps20
    go_wp2_with fail
    refine (all_1 n s HN.out.1 HN.out.2 _ _ 23 _ (Blk.new' _ _ _ (by simp))).mono ?_
    rintro e w1 ⟨rfl, hb⟩
    replace hb0 := (hb0.alloc _).step hb
    rw [if_pos hf]
    clear hf
    go_wp2_with fail
    refine (power_eq HB.out (by omega) (by omega) _).mono ?_
    rintro e w2 ⟨rfl, rfl⟩
    have c0 := hb0.cell 0
    have c1 := hb0.cell 1
    simp at c0 c1
    clear k6
    go_wp2_with fail
    refine (units_eq HU.out b3 b4 b1 b2 _).mono ?_
    rintro e w3 ⟨rfl, hb3⟩
    replace hb0 := hb0.step hb3
    have d0 := hb0.cell 0
    have d1 := hb0.cell 1
    simp at d0 d1
    clear c0 c1
    go_wp2_with fail
    refine (units_eq HU.out b3 b4 b1 b2 _).mono ?_
    rintro e w4 ⟨rfl, hb4⟩
    replace hb0 := hb0.step hb4
    have e0 := hb0.cell 0
    have e1 := hb0.cell 1
    simp at e0 e1
    clear d0 d1
    go_wp2_with fail
    go_region_held3 (fun w' => w'.cell? ⟨w.heap.size, 0, none⟩ = some (.int .i64 n) ∧ w'.cell? ⟨w.heap.size, 1, none⟩ = some (.int .i64 s)) ((first | (simp [*, World.cell?_alloc_some, World.cell?_setCell_far]; done) | (go_split_ands; (repeat' apply And.intro) <;> first | assumption | exact keep1 (by assumption) (by assumption) | (simp [go_sem]; done) | (repeat (first | (with_reducible assumption) | (with_reducible refine keepd ?_) | (with_reducible refine keepa2 ?_))))))
      (first
        | (go_at_call 42; refine (units_eq HU.out (by assumption) (by assumption) (by assumption) (by assumption) _).mono ?_; rintro e w' ⟨rfl, hb'⟩))
    go_wp2_with fail
    go_returns
    exact ⟨rfl, by (repeat' (first | (with_reducible exact Below.refl _ _) | (with_reducible assumption) | (with_reducible refine balloc ?_ _) | (with_reducible refine Below.drew ?_) | (with_reducible refine bset ?_ ?_ _) | (with_reducible refine bstep ?_ (by with_reducible assumption)) | (with_reducible refine bturn ?_ (by with_reducible assumption) ?_) | go_size))⟩

theorem at_good (n s c : Int) (hn : I64 n) (hs : I64 s) (h : 0 ≤ c ∧ c ≤ 6) (hf : soundS n s = true) (w : World) :
    Calls Tryd.prog 20 #[.agg #[.int .i64 n, .int .i64 s], .int .i64 c] w fun e w' => e = .returned (.tuple #[.int .i64 (atS n s c).n, .bool (atS n s c).b, .int .i64 (atS n s c).e]) ∧ Below w.heap.size w w' := by
  have HR : atS n s c = ⟨unitsS n s / p10 (6 - c).toNat, decide (unitsS n s % p10 (6 - c).toNat = 0), 0⟩ := by unfold atS; rw [if_neg (by omega), if_pos hf]
  obtain ⟨b1, b2, b3, b4, _⟩ := sound_bd hf
  have hp0 := p10_pos (6 - c).toNat
  have hp1 : p10 (6 - c).toNat ≤ 1000000 := p10_6 ▸ p10_mono (by omega)
  obtain ⟨u1a, u1b⟩ := (units_bd (s := s) b3 b4).resolve_right (by omega)
  obtain ⟨f1, f2, f3, f4⟩ := floor_of (u := unitsS n s) hp0
  have hq : -1000000000000000000 ≤ (unitsS n s).tdiv (p10 (6 - c).toNat) ∧ (unitsS n s).tdiv (p10 (6 - c).toNat) ≤ 1000000000000000000 := tdiv_bd hp0 (by omega) (by omega)
  refine (at_core n s c _ _ _ _ hn hs h.1 h.2 hf rfl rfl (by omega) (by omega) hp0 hp1 rfl rfl hq.1 hq.2 f3 f4 w).mono ?_
  rintro e w' ⟨rfl, hb⟩
  refine ⟨?_, hb⟩
  rw [HR, f1]
  have : ((unitsS n s).tmod (p10 (6 - c).toNat) == 0) = decide (unitsS n s % p10 (6 - c).toNat = 0) := by
    rw [Bool.eq_iff_iff]; simp [f2]
  rw [this]

theorem at_any (n s c : Int) (hn : I64 n) (hs : I64 s) (w : World) :
    Calls Tryd.prog 20 #[.agg #[.int .i64 n, .int .i64 s], .int .i64 c] w fun e w' => e = .returned (.tuple #[.int .i64 (atS n s c).n, .bool (atS n s c).b, .int .i64 (atS n s c).e]) ∧ Below w.heap.size w w' := by
  by_cases h : c < 0 ∨ 6 < c
  · exact at_bad n s c h w
  · by_cases hf : soundS n s = true
    · exact at_good n s c hn hs (by omega) hf w
    · exact at_form n s c hn hs (by omega) hf w
end Go.Proofs.YteljkkfnnmikkaaDoor
