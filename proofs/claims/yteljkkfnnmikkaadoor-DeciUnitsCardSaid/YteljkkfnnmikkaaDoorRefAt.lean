/- The walk of the reference's At. -/
import Derived.Test.YteljkkfnnmikkaaDoorAtB
import Derived.Test.YteljkkfnnmikkaaDoorRefA
import Derived.Deep.LoopGhost
namespace Go.Proofs.YteljkkfnnmikkaaDoor
open Go.RowKit
attribute [local go_sem high] run_dec_eql run_dec_neq

theorem fdiv_succ (n : Int) (j : Nat) : n / p10 (j + 1) = n / p10 j / 10 := by rw [p10_succ, Int.ediv_ediv_of_nonneg (Int.le_of_lt (p10_pos j))]
theorem fmod_succ (n : Int) (j : Nat) : n % p10 (j + 1) = 0 ↔ n % p10 j = 0 ∧ n / p10 j % 10 = 0 := by
  have h0 := p10_pos j
  have h1 := Int.emod_nonneg n (b := p10 j) (by omega)
  have h2 := Int.mul_ediv_add_emod n (p10 j)
  have h3 := Int.mul_ediv_add_emod (n / p10 j) 10
  have h4 := Int.mul_ediv_add_emod n (p10 (j + 1))
  rw [fdiv_succ, p10_succ] at h4
  have h5 : n % p10 (j + 1) = p10 j * (n / p10 j % 10) + n % p10 j := by
    have e1 : p10 j * (n / p10 j) = p10 j * 10 * (n / p10 j / 10) + p10 j * (n / p10 j % 10) := by
      rw [Int.mul_assoc, ← Int.mul_add, h3]
    rw [p10_succ]
    omega
  rw [h5]
  have h6 : 0 ≤ n / p10 j % 10 := by omega
  have h7 := Int.mul_nonneg (Int.le_of_lt h0) h6
  constructor
  · intro h
    have h8 : p10 j * (n / p10 j % 10) = 0 := by omega
    rcases Int.mul_eq_zero.1 h8 with h9 | h9
    · omega
    · exact ⟨by omega, h9⟩
  · rintro ⟨a, b⟩
    rw [a, b]; simp

/-- The number in units of a coarser or a finer scale. -/
theorem at_up {n s c : Int} (h0 : 0 ≤ s) (h1 : s ≤ c) (h2 : c ≤ 6) : unitsS n s / p10 (6 - c).toNat = n * p10 (c - s).toNat ∧ unitsS n s % p10 (6 - c).toNat = 0 := by
  have e : unitsS n s = n * p10 (c - s).toNat * p10 (6 - c).toNat := by
    unfold unitsS; rw [Int.mul_assoc, ← p10_add]; congr 2; omega
  have := p10_pos (6 - c).toNat
  rw [e]
  exact ⟨Int.mul_ediv_cancel _ (by omega), Int.mul_emod_left _ _⟩
theorem at_down {n s c : Int} (h0 : 0 ≤ c) (h1 : c ≤ s) (h2 : s ≤ 6) : unitsS n s / p10 (6 - c).toNat = n / p10 (s - c).toNat ∧ (unitsS n s % p10 (6 - c).toNat = 0 ↔ n % p10 (s - c).toNat = 0) := by
  have e : p10 (6 - c).toNat = p10 (s - c).toNat * p10 (6 - s).toNat := by rw [← p10_add]; congr 1; omega
  have h3 := p10_pos (6 - s).toNat
  have h4 := p10_pos (s - c).toNat
  unfold unitsS
  rw [e]
  refine ⟨Int.mul_ediv_mul_of_pos_left _ _ h3, ?_⟩
  rw [Int.mul_comm n, Int.mul_comm (p10 (s - c).toNat), Int.mul_emod_mul_of_pos _ _ h3]
  constructor
  · intro h
    rcases Int.mul_eq_zero.1 h with h | h
    · omega
    · exact h
  · intro h; rw [h]; simp

set_option maxHeartbeats 1000000 in
set_option maxRecDepth 100000 in
theorem rat_bad (n s c : Int) (h : c < 0 ∨ 6 < c) (w : World) :
    Calls Tryd.prog 21 #[.agg #[.int .i64 n, .int .i64 s], .int .i64 c] w fun e w' => e = .returned (.tuple #[.int .i64 (atS n s c).n, .bool (atS n s c).b, .int .i64 (atS n s c).e]) ∧ Below w.heap.size w w' := by
  have HR : atS n s c = ⟨0, false, 1⟩ := by unfold atS; rw [if_pos h]
  replace HR := Lib.hid HR
  by_cases g1 : c < 0
  · clear h
    go_enter Tryd.func21, Tryd.ntmps21
    go_wp2_with fail
    go_returns
    exact ⟨by rw [HR.out]; rfl, by (repeat' (first | (with_reducible exact Below.refl _ _) | (with_reducible assumption) | (with_reducible refine balloc ?_ _) | (with_reducible refine Below.drew ?_) | (with_reducible refine bset ?_ ?_ _) | (with_reducible refine bstep ?_ (by with_reducible assumption)) | (with_reducible refine bturn ?_ (by with_reducible assumption) ?_) | go_size))⟩
  · have g2 : 6 < c := by omega
    clear h
    go_enter Tryd.func21, Tryd.ntmps21
    go_wp2_with fail
    go_returns
    exact ⟨by rw [HR.out]; rfl, by (repeat' (first | (with_reducible exact Below.refl _ _) | (with_reducible assumption) | (with_reducible refine balloc ?_ _) | (with_reducible refine Below.drew ?_) | (with_reducible refine bset ?_ ?_ _) | (with_reducible refine bstep ?_ (by with_reducible assumption)) | (with_reducible refine bturn ?_ (by with_reducible assumption) ?_) | go_size))⟩

set_option maxHeartbeats 1000000 in
set_option maxRecDepth 100000 in
theorem rat_form (n s c : Int) (hn : I64 n) (hs : I64 s) (h : 0 ≤ c ∧ c ≤ 6) (hf : ¬ soundS n s = true) (w : World) :
    Calls Tryd.prog 21 #[.agg #[.int .i64 n, .int .i64 s], .int .i64 c] w fun e w' => e = .returned (.tuple #[.int .i64 (atS n s c).n, .bool (atS n s c).b, .int .i64 (atS n s c).e]) ∧ Below w.heap.size w w' := by
  have HR : atS n s c = ⟨0, false, 2⟩ := by unfold atS; rw [if_neg (by omega), if_neg hf]
  replace HR := Lib.hid HR
  replace hf : soundS n s = false := by simpa using hf
  obtain ⟨h0, h1⟩ := h
  have HN : Hid (I64 n ∧ I64 s) := ⟨hn, hs⟩
  clear hn hs
  go_enter Tryd.func21, Tryd.ntmps21
  go_wp2_with fail
  refine (rsound_any n s HN.out.1.1 HN.out.1.2 HN.out.2.1 HN.out.2.2 _).mono ?_
  rintro e w1 ⟨rfl, hb⟩
  go_wp2_with fail
  go_returns
  exact ⟨by rw [HR.out]; rfl, by (repeat' (first | (with_reducible exact Below.refl _ _) | (with_reducible assumption) | (with_reducible refine balloc ?_ _) | (with_reducible refine Below.drew ?_) | (with_reducible refine bset ?_ ?_ _) | (with_reducible refine bstep ?_ (by with_reducible assumption)) | (with_reducible refine bturn ?_ (by with_reducible assumption) ?_) | go_size))⟩

set_option maxHeartbeats 2000000 in
set_option maxRecDepth 100000 in
theorem rat_up (n s c X : Int) (hn : I64 n) (hs : I64 s) (h0 : 0 ≤ s) (h1 : s ≤ c) (h2 : c ≤ 6) (b3 : -999999999999 ≤ n) (b4 : n ≤ 999999999999) (hf : soundS n s = true) (hX : n * p10 (c - s).toNat = X) (w : World) :
    Calls Tryd.prog 21 #[.agg #[.int .i64 n, .int .i64 s], .int .i64 c] w fun e w' => e = .returned (.tuple #[.int .i64 X, .bool true, .int .i64 0]) ∧ Below w.heap.size w w' := by
  have HN : Hid (I64 n ∧ I64 s) := ⟨hn, hs⟩
  have HX := Lib.hid hX
  clear hn hs hX
  have hb0 := Blk.new w 23 #[.int .i64 n, .int .i64 s]
  go_enter Tryd.func21, Tryd.ntmps21
  go_wp2_with fail
  refine (rsound_any n s HN.out.1.1 HN.out.1.2 HN.out.2.1 HN.out.2.2 _).mono ?_
  rintro e w1 ⟨rfl, hb⟩
  replace hb0 := hb0.step hb
  have c0 := hb0.cell 0
  have c1 := hb0.cell 1
  simp at c0 c1
  go_wp2_with fail
  go_loop [7, 8] (fun v k => ∃ (j : Nat) (m : Int), (j : Int) ≤ c - s ∧ v = .int .i64 m ∧ k = .int .i64 (s + j) ∧ m = n * p10 j ∧ -100000000000000000000000 ≤ m) (fun _ k => (c - intOf k).toNat)
  case atStart => exact ⟨0, n, by omega, rfl, by simp, by rw [p10_zero, Int.mul_one], by omega⟩
  case round =>
    obtain ⟨j, m, hj, rfl, rfl, hm, _⟩ := hrel
    have hp0 := p10_pos j
    have hp1 : p10 j ≤ 1000000 := p10_6 ▸ p10_mono (by omega)
    have m0 : m ≤ 999999999999 * p10 j := by rw [hm]; exact Int.mul_le_mul_of_nonneg_right b4 (by omega)
    have m1 : -999999999999 * p10 j ≤ m := by rw [hm]; exact Int.mul_le_mul_of_nonneg_right b3 (by omega)
    have k0 : -1000000000000000000 ≤ m := by omega
    have k1 : m ≤ 1000000000000000000 := by omega
    have HM := Lib.hid hm
    have HS := Lib.hid (p10_succ j)
    clear hm m0 m1
    by_cases hlt : s + j < c
    · have hp2 : p10 j ≤ 100000 := (show p10 5 = 100000 by decide) ▸ p10_mono (by omega)
      have m0 : m ≤ 999999999999 * p10 j := by rw [HM.out]; exact Int.mul_le_mul_of_nonneg_right b4 (by omega)
      have m1 : -999999999999 * p10 j ≤ m := by rw [HM.out]; exact Int.mul_le_mul_of_nonneg_right b3 (by omega)
      have k2 : -100000000000000000 ≤ m := by omega
      have k3 : m ≤ 100000000000000000 := by omega
      clear m0 m1
      go_wp2
      go_round
      case rel => exact ⟨j + 1, m * 10, by omega, rfl, by go_num, by rw [HM.out, HS.out, Int.mul_assoc], by omega⟩
      case measure => simp [intOf]; omega
    · have hjs : (c - s).toNat = j := by omega
      have HJ := Lib.hid hjs
      clear hjs
      go_wp2
      go_loop [7, 9, 10] (fun v b k => v = .int .i64 m ∧ b = .bool true ∧ k = .int .i64 c) (fun _ _ _ => 0)
      case atStart => exact ⟨rfl, rfl, rfl⟩
      case round =>
        obtain ⟨rfl, rfl, rfl⟩ := hrel
        go_wp2
        go_returns
        exact ⟨by rw [← HX.out, HJ.out, ← HM.out]; rfl, by (repeat' (first | (with_reducible exact Below.refl _ _) | (with_reducible assumption) | (with_reducible refine balloc ?_ _) | (with_reducible refine Below.drew ?_) | (with_reducible refine bset ?_ ?_ _) | (with_reducible refine bstep ?_ (by with_reducible assumption)) | (with_reducible refine bturn ?_ (by with_reducible assumption) ?_) | go_size))⟩

set_option maxHeartbeats 2000000 in
set_option maxRecDepth 100000 in
theorem rat_down (n s c X : Int) (ex : Bool) (hn : I64 n) (hs : I64 s) (h0 : 0 ≤ c) (h1 : c < s) (h2 : s ≤ 6) (b3 : -999999999999 ≤ n) (b4 : n ≤ 999999999999) (hf : soundS n s = true) (hX : n / p10 (s - c).toNat = X) (hex : decide (n % p10 (s - c).toNat = 0) = ex) (w : World) :
    Calls Tryd.prog 21 #[.agg #[.int .i64 n, .int .i64 s], .int .i64 c] w fun e w' => e = .returned (.tuple #[.int .i64 X, .bool ex, .int .i64 0]) ∧ Below w.heap.size w w' := by
  have HN : Hid (I64 n ∧ I64 s) := ⟨hn, hs⟩
  have HX := Lib.hid hX
  have HE := Lib.hid hex
  clear hn hs hX hex
  have hb0 := Blk.new w 23 #[.int .i64 n, .int .i64 s]
  go_enter Tryd.func21, Tryd.ntmps21
  go_wp2_with fail
  refine (rsound_any n s HN.out.1.1 HN.out.1.2 HN.out.2.1 HN.out.2.2 _).mono ?_
  rintro e w1 ⟨rfl, hb⟩
  replace hb0 := hb0.step hb
  have c0 := hb0.cell 0
  have c1 := hb0.cell 1
  simp at c0 c1
  go_wp2_with fail
  go_loop [7, 8] (fun v k => v = .int .i64 n ∧ k = .int .i64 s) (fun _ k => 0)
  case atStart => exact ⟨rfl, rfl⟩
  case round =>
    obtain ⟨rfl, rfl⟩ := hrel
    go_wp2
    go_loop [7, 9, 10] (fun v b k => ∃ (j : Nat) (m : Int), (j : Int) ≤ s - c ∧ v = .int .i64 m ∧ b = .bool (decide (n % p10 j = 0)) ∧ k = .int .i64 (c + j) ∧ m = n / p10 j ∧ -999999999999 ≤ m ∧ m ≤ 999999999999) (fun _ _ k => (s - intOf k).toNat)
    case atStart => exact ⟨0, n, by omega, rfl, by rw [p10_zero, Int.emod_one]; rfl, by simp, by rw [p10_zero, Int.ediv_one], b3, b4⟩
    case round =>
      obtain ⟨j, m, hj, rfl, rfl, rfl, hm, m0, m1⟩ := hrel
      have HM := Lib.hid hm
      have HS := Lib.hid (fdiv_succ n j)
      have HT := Lib.hid (fmod_succ n j)
      clear hm
      by_cases hlt : c + j < s
      · obtain ⟨f1, f2, f3, f4⟩ := floor_of (u := m) (B := 10) (by decide)
        have f5 := tdiv_bd (u := m) (B := 10) (by decide) (by omega) (by omega)
        generalize hq : m.tdiv 10 = q at *
        generalize hr : m.tmod 10 = r at *
        have F1 := Lib.hid f1
        have F2 := Lib.hid f2
        clear f1 f2
        by_cases hz : r = 0
        · subst hz
          have e1 : q = m / 10 := by rw [← F1.out]; rfl
          have E1 := Lib.hid e1
          clear e1
          go_wp2
          go_round
          case rel => exact ⟨j + 1, q, by omega, rfl, by congr 1; rw [decide_eq_decide, HT.out]; rw [← HM.out]; have := F2.out; omega, by go_num, by rw [HS.out, ← HM.out, E1.out], by have := E1.out; omega, by have := E1.out; omega⟩
          case measure => simp [intOf]; omega
        · by_cases hneg : r < 0
          · have e1 : q - 1 = m / 10 := by rw [← F1.out, if_pos hneg]
            have E1 := Lib.hid e1
            clear e1
            go_wp2
            go_round
            case rel => exact ⟨j + 1, q - 1, by omega, rfl, by congr 1; symm; rw [decide_eq_false_iff_not, HT.out]; rw [← HM.out]; have := F2.out; omega, by go_num, by rw [HS.out, ← HM.out, E1.out], by have := E1.out; omega, by have := E1.out; omega⟩
            case measure => simp [intOf]; omega
          · have e1 : q = m / 10 := by rw [← F1.out, if_neg hneg]
            have E1 := Lib.hid e1
            clear e1
            go_wp2
            go_round
            case rel => exact ⟨j + 1, q, by omega, rfl, by congr 1; symm; rw [decide_eq_false_iff_not, HT.out]; rw [← HM.out]; have := F2.out; omega, by go_num, by rw [HS.out, ← HM.out, E1.out], by have := E1.out; omega, by have := E1.out; omega⟩
            case measure => simp [intOf]; omega
      · have hjs : (s - c).toNat = j := by omega
        have HJ := Lib.hid hjs
        clear hjs
        go_wp2
        go_returns
        exact ⟨by rw [← HX.out, ← HE.out, HJ.out, ← HM.out]; rfl, by (repeat' (first | (with_reducible exact Below.refl _ _) | (with_reducible assumption) | (with_reducible refine balloc ?_ _) | (with_reducible refine Below.drew ?_) | (with_reducible refine bset ?_ ?_ _) | (with_reducible refine bstep ?_ (by with_reducible assumption)) | (with_reducible refine bturn ?_ (by with_reducible assumption) ?_) | go_size))⟩

theorem rat_any (n s c : Int) (hn : I64 n) (hs : I64 s) (w : World) :
    Calls Tryd.prog 21 #[.agg #[.int .i64 n, .int .i64 s], .int .i64 c] w fun e w' => e = .returned (.tuple #[.int .i64 (atS n s c).n, .bool (atS n s c).b, .int .i64 (atS n s c).e]) ∧ Below w.heap.size w w' := by
  by_cases h : c < 0 ∨ 6 < c
  · exact rat_bad n s c h w
  · by_cases hf : soundS n s = true
    · have HR : atS n s c = ⟨unitsS n s / p10 (6 - c).toNat, decide (unitsS n s % p10 (6 - c).toNat = 0), 0⟩ := by unfold atS; rw [if_neg (by omega), if_pos hf]
      obtain ⟨b1, b2, b3, b4, _⟩ := sound_bd hf
      by_cases hsc : s ≤ c
      · obtain ⟨e1, e2⟩ := at_up (n := n) b1 hsc (by omega)
        rw [HR, e1, e2]
        exact rat_up n s c _ hn hs b1 hsc (by omega) b3 b4 hf rfl w
      · obtain ⟨e1, e2⟩ := at_down (n := n) (by omega) (show c ≤ s by omega) b2
        rw [HR, e1, decide_eq_decide.2 e2]
        exact rat_down n s c _ _ hn hs (by omega) (by omega) b2 b3 b4 hf rfl rfl w
    · exact rat_form n s c hn hs (by omega) hf w
end Go.Proofs.YteljkkfnnmikkaaDoor
