/- The walks of package days: Day, Date. -/
import Derived.Test.YtambpkkllgppdaaGreatDoorDaysA
namespace Go.Proofs.YtambpkkllgppdaaGreatDoor.Days
open Go.RowKit

set_option maxHeartbeats 1000000 in
set_option maxRecDepth 100000 in
theorem day_bad (y m d : Int) (h : ¬ okD y m d) (w : World) : Calls Tryz.prog 64 #[.int .i64 y, .int .i64 m, .int .i64 d] w fun e w' => e = .returned (.tuple #[.int .i64 0, .int .i64 3]) ∧ w = w' := by
  unfold okD at h
  by_cases g1 : y < 1
  · clear h
    go_enter Tryz.func64, Tryz.ntmps64
    go_wp2
    go_returns
    exact ⟨rfl, rfl⟩
  by_cases g2 : 9999 < y
  · clear h
    go_enter Tryz.func64, Tryz.ntmps64
    go_wp2
    go_returns
    exact ⟨rfl, rfl⟩
  by_cases g3 : m < 1
  · clear h
    go_enter Tryz.func64, Tryz.ntmps64
    go_wp2
    go_returns
    exact ⟨rfl, rfl⟩
  by_cases g4 : 12 < m
  · clear h
    go_enter Tryz.func64, Tryz.ntmps64
    go_wp2
    go_returns
    exact ⟨rfl, rfl⟩
  by_cases g5 : d < 1
  · clear h
    go_enter Tryz.func64, Tryz.ntmps64
    go_wp2
    go_returns
    exact ⟨rfl, rfl⟩
  have g6 : lenS y m < d := by omega
  clear h
  go_enter Tryz.func64, Tryz.ntmps64
  go_wp2_with (go_at_call 100; refine (length_any y m _).mono ?_; rintro e w' ⟨rfl, rfl⟩)
  go_returns
  exact ⟨rfl, rfl⟩

set_option maxHeartbeats 1000000 in
set_option maxRecDepth 100000 in
theorem day_ok (y m d : Int) (h : okD y m d) (w : World) : Calls Tryz.prog 64 #[.int .i64 y, .int .i64 m, .int .i64 d] w fun e w' => e = .returned (.tuple #[.int .i64 (dayN y m d), .int .i64 0]) ∧ w = w' := by
  have HD : Hid (dayN y m d = firstS y + cumS y (m - 1).toNat + (d - 1)) := rfl
  obtain ⟨g1, g2, g3, g4, g5, g6⟩ := h
  have f0 := first_ge g1
  have f1 := first_le g1
  have l0 := len_bd y m
  have f2 : 0 ≤ firstS y := by omega
  have f3 : firstS y ≤ 4000000 := by omega
  have d1 : d ≤ 31 := by omega
  clear f0 f1 l0
  go_enter Tryz.func64, Tryz.ntmps64
  go_wp2_with (first
    | (go_at_call 100; refine (length_any y m _).mono ?_; rintro e w' ⟨rfl, rfl⟩)
    | (go_at_call 101; refine (first_any y g1 (by omega) _).mono ?_; rintro e w' ⟨rfl, rfl⟩))
  go_loop [8, 9] (fun v i => ∃ (k : Nat) (x : Int), (k : Int) ≤ m - 1 ∧ i = .int .i64 ((k : Int) + 1) ∧ v = .int .i64 x ∧ x = firstS y + d - 1 + cumS y k) (fun _ i => (m - intOf i).toNat)
  case atStart => exact ⟨0, _, by omega, by rfl, rfl, by simp [cumS]⟩
  case round =>
    obtain ⟨k, x, hk, rfl, rfl, hx⟩ := hrel
    have hc := cum_bd y k
    have x0 : 0 ≤ x := by omega
    have x1 : x ≤ 5000000 := by omega
    have HX := Lib.hid hx
    clear hx hc
    by_cases hlt : (k : Int) + 1 < m
    · have l0 := len_bd y ((k : Int) + 1)
      obtain ⟨l1, l2⟩ := l0
      have HL : Hid (cumS y (k + 1) = cumS y k + lenS y ((k : Int) + 1)) := by rw [cum_succ]; rfl
      have HY := Lib.hid (length_any y ((k : Int) + 1))
      generalize lenS y ((k : Int) + 1) = L at *
      go_wp2_with (go_at_call 100; refine (HY.out _).mono ?_; rintro e w' ⟨rfl, rfl⟩)
      go_round
      case rel => exact ⟨k + 1, x + L, by omega, by go_num, rfl, by rw [HX.out, HL.out]; omega⟩
      case measure => simp [intOf]; omega
    · have e : (m - 1).toNat = k := by omega
      have E := Lib.hid e
      clear e
      go_wp2
      go_returns
      exact ⟨by rw [HD.out, E.out, show firstS y + cumS y k + (d - 1) = x from by rw [HX.out]; omega]; rfl, rfl⟩

set_option maxHeartbeats 1000000 in
theorem date_bad (n : Int) (h : n < 0 ∨ 3652058 < n) (w : World) : Calls Tryz.prog 75 #[.int .i64 n] w fun e w' => e = .returned (.tuple #[.int .i64 0, .int .i64 0, .int .i64 0, .int .i64 3]) ∧ w = w' := by
  by_cases g1 : n < 0
  · clear h
    go_enter Tryz.func75, Tryz.ntmps75
    go_wp2
    go_returns
    exact ⟨rfl, rfl⟩
  · have g2 : 3652058 < n := by omega
    clear h
    go_enter Tryz.func75, Tryz.ntmps75
    go_wp2
    go_returns
    exact ⟨rfl, rfl⟩

set_option maxHeartbeats 2000000 in
set_option maxRecDepth 100000 in
theorem date_ok (n y : Int) (m : Nat) (h0 : 0 ≤ n) (h1 : n ≤ 3652058) (y0 : 1 ≤ y) (y1 : y ≤ 9999) (m1 : m < 12) (c0 : firstS y + cumS y m ≤ n) (c1 : n < firstS y + cumS y (m + 1)) (d0 : firstS y ≤ n) (d1 : n < firstS (y + 1)) (w : World) :
    Calls Tryz.prog 75 #[.int .i64 n] w fun e w' => e = .returned (.tuple #[.int .i64 y, .int .i64 ((m : Int) + 1), .int .i64 (n - firstS y - cumS y m + 1), .int .i64 0]) ∧ w = w' := by
  have HC : Hid (firstS y + cumS y m ≤ n ∧ n < firstS y + cumS y (m + 1) ∧ firstS y ≤ n ∧ n < firstS (y + 1)) := ⟨c0, c1, d0, d1⟩
  have q0 : 0 ≤ n / 365 := by omega
  have q1 : n / 365 ≤ 10006 := by omega
  have f0 := first_ge y0
  have y2 : y ≤ n / 365 + 1 := by omega
  clear c0 c1 d1 f0
  go_enter Tryz.func75, Tryz.ntmps75
  go_wp2
  all_goals
    go_loop [2] (fun v => ∃ z : Int, v = .int .i64 z ∧ y ≤ z ∧ z ≤ 9999) (fun v => (intOf v).toNat)
    case atStart => exact ⟨_, rfl, by omega, by omega⟩
    case round =>
      obtain ⟨z, rfl, z0, z1⟩ := hrel
      have f2 := first_ge (y := z) (by omega)
      have f3 := first_le (y := z) (by omega)
      by_cases hgt : n < firstS z
      · have hne : ¬ z = y := by rintro rfl; omega
        have z2 : y + 1 ≤ z := by omega
        go_wp2_with (go_at_call 101; refine (first_any z (by omega) (by omega) _).mono ?_; rintro e w' ⟨rfl, rfl⟩)
        go_round
        case rel => exact ⟨z - 1, rfl, by omega, by omega⟩
        case measure => simp [intOf]; omega
      · obtain rfl : z = y := by
          apply Int.le_antisymm _ z0
          apply Int.le_of_not_gt
          intro hlt
          have := first_mono (a := y + 1) (b := z) (by omega)
          have := HC.out.2.2.2
          omega
        go_wp2_with (go_at_call 101; refine (first_any z (by omega) (by omega) _).mono ?_; rintro e w' ⟨rfl, rfl⟩)
        go_loop [0, 3] (fun v i => ∃ (k : Nat) (x : Int), k ≤ m ∧ i = .int .i64 ((k : Int) + 1) ∧ v = .int .i64 x ∧ x = n - firstS z - cumS z k ∧ 0 ≤ x ∧ x ≤ 3652058) (fun _ i => (20 - intOf i).toNat)
        case atStart => exact ⟨0, _, by omega, by rfl, rfl, by simp [cumS], by omega, by omega⟩
        case round =>
          obtain ⟨k, x, hk, rfl, rfl, hx, x0, x1⟩ := hrel
          have HX := Lib.hid hx
          clear hx
          have l0 := len_bd z ((k : Int) + 1)
          obtain ⟨l1, l2⟩ := l0
          have HL : Hid (cumS z (k + 1) = cumS z k + lenS z ((k : Int) + 1)) := by rw [cum_succ]; rfl
          have HY := Lib.hid (length_any z ((k : Int) + 1))
          generalize lenS z ((k : Int) + 1) = L at *
          by_cases hge : L ≤ x
          · have hlt : k < m := by
              apply Nat.lt_of_not_le
              intro hle
              obtain rfl : k = m := by omega
              have h1 := HC.out
              have h2 := HL.out
              have h3 := HX.out
              omega
            go_wp2_with (go_at_call 100; refine (HY.out _).mono ?_; rintro e w' ⟨rfl, rfl⟩)
            go_round
            case rel => exact ⟨k + 1, x - L, by omega, by go_num, rfl, by rw [HX.out, HL.out]; omega, by omega, by omega⟩
            case measure => simp [intOf]; omega
          · obtain rfl : k = m := by
              apply Nat.le_antisymm hk
              apply Nat.le_of_not_lt
              intro hlt
              have h0 := cum_mono z (a := k + 1) (b := m) (by omega)
              have h1 := HC.out
              have h2 := HL.out
              have h3 := HX.out
              omega
            go_wp2_with (go_at_call 100; refine (HY.out _).mono ?_; rintro e w' ⟨rfl, rfl⟩)
            go_returns
            exact ⟨by rw [← HX.out], rfl⟩
end Go.Proofs.YtambpkkllgppdaaGreatDoor.Days
