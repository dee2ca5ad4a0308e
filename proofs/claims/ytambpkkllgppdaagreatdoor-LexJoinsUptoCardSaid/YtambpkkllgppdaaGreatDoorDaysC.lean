/- The walks of the reference of package days: years, Length, Day, Date. -/
import Derived.Test.YtambpkkllgppdaaGreatDoorDaysB
namespace Go.Proofs.YtambpkkllgppdaaGreatDoor.Days
open Go.RowKit

theorem years_any (y : Int) (w : World) : Calls Tryz.prog 105 #[.int .i64 y] w fun e w' => e = .returned (.int .i64 (yearS y)) ∧ w = w' := by
  have HL : Hid (∀ b, leapB y = b → yearS y = if b = true then 366 else 365) := fun b hb => by subst hb; rfl
  have HY := Lib.hid (rleap_any y)
  generalize yearS y = L at *
  generalize hlb : leapB y = b at *
  have HL2 := Lib.hid (HL.out b rfl)
  clear HL hlb
  cases b
  all_goals
    go_enter Tryz.func105, Tryz.ntmps105
    go_wp2_with (go_at_call 133; refine (HY.out _).mono ?_; rintro e w' ⟨rfl, rfl⟩)
    go_ret
    exact ⟨by rw [HL2.out]; rfl, rfl⟩

set_option maxHeartbeats 2000000 in
theorem rlength_any (y m : Int) (h0 : 1 ≤ m) (h1 : m ≤ 12) (w : World) : Calls Tryz.prog 104 #[.int .i64 y, .int .i64 m] w fun e w' => e = .returned (.int .i64 (lenS y m)) ∧ Below w.heap.size w w' := by
  have HL : Hid (∀ b, leapB y = b → lenS y m = if m = 2 then (if b = true then 29 else 28) else if m = 4 ∨ m = 6 ∨ m = 9 ∨ m = 11 then 30 else 31) := fun b hb => by subst hb; rfl
  have HY := Lib.hid (rleap_any y)
  generalize lenS y m = L at *
  generalize hlb : leapB y = b at *
  have HL2 := Lib.hid (HL.out b rfl)
  clear HL hlb
  have hm : m = 1 ∨ m = 2 ∨ m = 3 ∨ m = 4 ∨ m = 5 ∨ m = 6 ∨ m = 7 ∨ m = 8 ∨ m = 9 ∨ m = 10 ∨ m = 11 ∨ m = 12 := by omega
  rcases hm with rfl | rfl | rfl | rfl | rfl | rfl | rfl | rfl | rfl | rfl | rfl | rfl
  case inr.inl =>
    cases b
    all_goals
      go_enter Tryz.func104, Tryz.ntmps104
      go_wp2_with (go_at_call 133; refine (HY.out _).mono ?_; rintro e w' ⟨rfl, rfl⟩)
      go_ret
      exact ⟨by rw [HL2.out]; rfl, by (repeat' (first | (with_reducible exact Below.refl _ _) | (with_reducible assumption) | (with_reducible refine balloc ?_ _) | (with_reducible refine Below.drew ?_) | (with_reducible refine bset ?_ ?_ _) | (with_reducible refine bstep ?_ (by with_reducible assumption)) | (with_reducible refine bturn ?_ (by with_reducible assumption) ?_) | go_size))⟩
  all_goals
    go_enter Tryz.func104, Tryz.ntmps104
    go_wp2
    go_ret
    exact ⟨by rw [HL2.out]; rfl, by (repeat' (first | (with_reducible exact Below.refl _ _) | (with_reducible assumption) | (with_reducible refine balloc ?_ _) | (with_reducible refine Below.drew ?_) | (with_reducible refine bset ?_ ?_ _) | (with_reducible refine bstep ?_ (by with_reducible assumption)) | (with_reducible refine bturn ?_ (by with_reducible assumption) ?_) | go_size))⟩

set_option maxHeartbeats 1000000 in
set_option maxRecDepth 100000 in
theorem rday_bad (y m d : Int) (h : ¬ okD y m d) (w : World) : Calls Tryz.prog 68 #[.int .i64 y, .int .i64 m, .int .i64 d] w fun e w' => e = .returned (.tuple #[.int .i64 0, .int .i64 3]) ∧ Below w.heap.size w w' := by
  unfold okD at h
  by_cases g1 : y < 1
  · clear h
    go_enter Tryz.func68, Tryz.ntmps68
    go_wp2
    go_returns
    exact ⟨rfl, by (repeat' (first | (with_reducible exact Below.refl _ _) | (with_reducible assumption) | (with_reducible refine balloc ?_ _) | (with_reducible refine Below.drew ?_) | (with_reducible refine bset ?_ ?_ _) | (with_reducible refine bstep ?_ (by with_reducible assumption)) | (with_reducible refine bturn ?_ (by with_reducible assumption) ?_) | go_size))⟩
  by_cases g2 : 9999 < y
  · clear h
    go_enter Tryz.func68, Tryz.ntmps68
    go_wp2
    go_returns
    exact ⟨rfl, by (repeat' (first | (with_reducible exact Below.refl _ _) | (with_reducible assumption) | (with_reducible refine balloc ?_ _) | (with_reducible refine Below.drew ?_) | (with_reducible refine bset ?_ ?_ _) | (with_reducible refine bstep ?_ (by with_reducible assumption)) | (with_reducible refine bturn ?_ (by with_reducible assumption) ?_) | go_size))⟩
  by_cases g3 : m < 1
  · clear h
    go_enter Tryz.func68, Tryz.ntmps68
    go_wp2
    go_returns
    exact ⟨rfl, by (repeat' (first | (with_reducible exact Below.refl _ _) | (with_reducible assumption) | (with_reducible refine balloc ?_ _) | (with_reducible refine Below.drew ?_) | (with_reducible refine bset ?_ ?_ _) | (with_reducible refine bstep ?_ (by with_reducible assumption)) | (with_reducible refine bturn ?_ (by with_reducible assumption) ?_) | go_size))⟩
  by_cases g4 : 12 < m
  · clear h
    go_enter Tryz.func68, Tryz.ntmps68
    go_wp2
    go_returns
    exact ⟨rfl, by (repeat' (first | (with_reducible exact Below.refl _ _) | (with_reducible assumption) | (with_reducible refine balloc ?_ _) | (with_reducible refine Below.drew ?_) | (with_reducible refine bset ?_ ?_ _) | (with_reducible refine bstep ?_ (by with_reducible assumption)) | (with_reducible refine bturn ?_ (by with_reducible assumption) ?_) | go_size))⟩
  by_cases g5 : d < 1
  · clear h
    go_enter Tryz.func68, Tryz.ntmps68
    go_wp2
    go_returns
    exact ⟨rfl, by (repeat' (first | (with_reducible exact Below.refl _ _) | (with_reducible assumption) | (with_reducible refine balloc ?_ _) | (with_reducible refine Below.drew ?_) | (with_reducible refine bset ?_ ?_ _) | (with_reducible refine bstep ?_ (by with_reducible assumption)) | (with_reducible refine bturn ?_ (by with_reducible assumption) ?_) | go_size))⟩
  have g6 : lenS y m < d := by omega
  clear h
  go_enter Tryz.func68, Tryz.ntmps68
  go_wp2_with (go_at_call 104; refine (rlength_any y m (by omega) (by omega) _).mono ?_; rintro e w' ⟨rfl, hb⟩)
  go_returns
  exact ⟨rfl, by (repeat' (first | (with_reducible exact Below.refl _ _) | (with_reducible assumption) | (with_reducible refine balloc ?_ _) | (with_reducible refine Below.drew ?_) | (with_reducible refine bset ?_ ?_ _) | (with_reducible refine bstep ?_ (by with_reducible assumption)) | (with_reducible refine bturn ?_ (by with_reducible assumption) ?_) | go_size))⟩

set_option maxHeartbeats 2000000 in
set_option maxRecDepth 100000 in
theorem rday_ok (y m d : Int) (h : okD y m d) (w : World) : Calls Tryz.prog 68 #[.int .i64 y, .int .i64 m, .int .i64 d] w fun e w' => e = .returned (.tuple #[.int .i64 (dayN y m d), .int .i64 0]) ∧ Below w.heap.size w w' := by
  have HD : Hid (dayN y m d = firstS y + cumS y (m - 1).toNat + (d - 1)) := rfl
  obtain ⟨g1, g2, g3, g4, g5, g6⟩ := h
  have l0 := len_bd y m
  have d1 : d ≤ 31 := by omega
  clear l0
  go_enter Tryz.func68, Tryz.ntmps68
  go_wp2_with (go_at_call 104; refine (rlength_any y m (by omega) (by omega) _).mono ?_; rintro e w1 ⟨rfl, hb⟩)
  go_loop [8, 9] (fun v i => ∃ z : Int, i = .int .i64 z ∧ v = .int .i64 (firstS z) ∧ 1 ≤ z ∧ z ≤ y) (fun _ i => (y - intOf i).toNat)
  case atStart => exact ⟨1, rfl, by rw [first_1], by omega, by omega⟩
  case round =>
    obtain ⟨z, rfl, rfl, z0, z1⟩ := hrel
    have f0 := first_ge z0
    have f1 := first_le z0
    have f2 : 0 ≤ firstS z := by omega
    have f3 : firstS z ≤ 4000000 := by omega
    clear f0 f1
    by_cases hlt : z < y
    · have HF := Lib.hid (first_succ z)
      have yb := year_bd z
      obtain ⟨yb0, yb1⟩ := yb
      have HY := Lib.hid (years_any z)
      generalize hL : yearS z = L at *
      generalize hF : firstS z = F at *
      clear hL hF
      go_wp2_with (go_at_call 105; refine (HY.out _).mono ?_; rintro e w' ⟨rfl, rfl⟩)
      go_round
      case rel => exact ⟨z + 1, rfl, by rw [HF.out], by omega, by omega⟩
      case measure => simp [intOf]; omega
    · obtain rfl : z = y := by omega
      go_wp2
      go_loopw [8, 10] (fun v i wr => ∃ (k : Nat) (x : Int), (k : Int) ≤ m - 1 ∧ i = .int .i64 ((k : Int) + 1) ∧ v = .int .i64 x ∧ x = firstS z + cumS z k ∧ Below w.heap.size w wr) (fun _ i _ => (m - intOf i).toNat)
      case atStart => exact ⟨0, _, by omega, by rfl, rfl, by simp [cumS], by (repeat' (first | (with_reducible exact Below.refl _ _) | (with_reducible assumption) | (with_reducible refine balloc ?_ _) | (with_reducible refine Below.drew ?_) | (with_reducible refine bset ?_ ?_ _) | (with_reducible refine bstep ?_ (by with_reducible assumption)) | (with_reducible refine bturn ?_ (by with_reducible assumption) ?_) | go_size))⟩
      case round =>
        obtain ⟨k, x, hk, rfl, rfl, hx, hbl⟩ := hrel
        have hc := cum_bd z k
        have x0 : 0 ≤ x := by omega
        have x1 : x ≤ 5000000 := by omega
        have HX := Lib.hid hx
        clear hx hc
        by_cases hlt : (k : Int) + 1 < m
        · have l0 := len_bd z ((k : Int) + 1)
          obtain ⟨l1, l2⟩ := l0
          have HL : Hid (cumS z (k + 1) = cumS z k + lenS z ((k : Int) + 1)) := by rw [cum_succ]; rfl
          have HY := Lib.hid (rlength_any z ((k : Int) + 1) (by omega) (by omega))
          generalize lenS z ((k : Int) + 1) = L at *
          go_wp2_with (go_at_call 104; refine (HY.out _).mono ?_; rintro e w' ⟨rfl, hb'⟩)
          go_roundw
          case rel => exact ⟨k + 1, x + L, by omega, by go_num, rfl, by rw [HX.out, HL.out]; omega, by (repeat' (first | (with_reducible exact Below.refl _ _) | (with_reducible assumption) | (with_reducible refine balloc ?_ _) | (with_reducible refine Below.drew ?_) | (with_reducible refine bset ?_ ?_ _) | (with_reducible refine bstep ?_ (by with_reducible assumption)) | (with_reducible refine bturn ?_ (by with_reducible assumption) ?_) | go_size))⟩
          case measure => simp [intOf]; omega
        · have e : (m - 1).toNat = k := by omega
          have E := Lib.hid e
          clear e
          go_wp2
          go_returns
          exact ⟨by rw [HD.out, E.out, show firstS z + cumS z k + (d - 1) = x + d - 1 from by rw [HX.out]; omega]; rfl, by (repeat' (first | (with_reducible exact Below.refl _ _) | (with_reducible assumption) | (with_reducible refine balloc ?_ _) | (with_reducible refine Below.drew ?_) | (with_reducible refine bset ?_ ?_ _) | (with_reducible refine bstep ?_ (by with_reducible assumption)) | (with_reducible refine bturn ?_ (by with_reducible assumption) ?_) | go_size))⟩

set_option maxHeartbeats 1000000 in
theorem rdate_bad (n : Int) (h : n < 0 ∨ 3652058 < n) (w : World) : Calls Tryz.prog 80 #[.int .i64 n] w fun e w' => e = .returned (.tuple #[.int .i64 0, .int .i64 0, .int .i64 0, .int .i64 3]) ∧ Below w.heap.size w w' := by
  by_cases g1 : n < 0
  · clear h
    go_enter Tryz.func80, Tryz.ntmps80
    go_wp2
    go_returns
    exact ⟨rfl, by (repeat' (first | (with_reducible exact Below.refl _ _) | (with_reducible assumption) | (with_reducible refine balloc ?_ _) | (with_reducible refine Below.drew ?_) | (with_reducible refine bset ?_ ?_ _) | (with_reducible refine bstep ?_ (by with_reducible assumption)) | (with_reducible refine bturn ?_ (by with_reducible assumption) ?_) | go_size))⟩
  · have g2 : 3652058 < n := by omega
    clear h
    go_enter Tryz.func80, Tryz.ntmps80
    go_wp2
    go_returns
    exact ⟨rfl, by (repeat' (first | (with_reducible exact Below.refl _ _) | (with_reducible assumption) | (with_reducible refine balloc ?_ _) | (with_reducible refine Below.drew ?_) | (with_reducible refine bset ?_ ?_ _) | (with_reducible refine bstep ?_ (by with_reducible assumption)) | (with_reducible refine bturn ?_ (by with_reducible assumption) ?_) | go_size))⟩

set_option maxHeartbeats 2000000 in
set_option maxRecDepth 100000 in
theorem rdate_ok (n y : Int) (m : Nat) (h0 : 0 ≤ n) (h1 : n ≤ 3652058) (y0 : 1 ≤ y) (y1 : y ≤ 9999) (m1 : m < 12) (c0 : firstS y + cumS y m ≤ n) (c1 : n < firstS y + cumS y (m + 1)) (d0 : firstS y ≤ n) (d1 : n < firstS (y + 1)) (w : World) :
    Calls Tryz.prog 80 #[.int .i64 n] w fun e w' => e = .returned (.tuple #[.int .i64 y, .int .i64 ((m : Int) + 1), .int .i64 (n - firstS y - cumS y m + 1), .int .i64 0]) ∧ Below w.heap.size w w' := by
  have HC : Hid (firstS y + cumS y m ≤ n ∧ n < firstS y + cumS y (m + 1) ∧ firstS y ≤ n ∧ n < firstS (y + 1)) := ⟨c0, c1, d0, d1⟩
  clear c0 c1 d1 d0
  go_enter Tryz.func80, Tryz.ntmps80
  go_wp2
  go_loop [0, 6] (fun v i => ∃ z x : Int, i = .int .i64 z ∧ v = .int .i64 x ∧ x = n - firstS z ∧ 1 ≤ z ∧ z ≤ y ∧ 0 ≤ x ∧ x ≤ 3652058) (fun _ i => (20000 - intOf i).toNat)
  case atStart => exact ⟨1, n, rfl, rfl, by rw [first_1]; omega, by omega, by omega, by omega, by omega⟩
  case round =>
    obtain ⟨z, x, rfl, rfl, hx, z0, z1, x0, x1⟩ := hrel
    have yb := year_bd z
    obtain ⟨yb0, yb1⟩ := yb
    have HF := Lib.hid (first_succ z)
    have HY := Lib.hid (years_any z)
    have HX := Lib.hid hx
    clear hx
    by_cases hge : yearS z ≤ x
    · have hlt : z < y := by
        apply Int.lt_of_not_ge
        intro hle
        obtain rfl : z = y := by omega
        have h1 := HC.out
        have h2 := HF.out
        have h3 := HX.out
        omega
      generalize hL : yearS z = L at *
      clear hL
      go_wp2_with (go_at_call 105; refine (HY.out _).mono ?_; rintro e w' ⟨rfl, rfl⟩)
      go_round
      case rel => exact ⟨z + 1, x - L, rfl, rfl, by rw [HX.out, HF.out]; omega, by omega, by omega, by omega, by omega⟩
      case measure => simp [intOf]; omega
    · obtain rfl : z = y := by
        apply Int.le_antisymm z1
        apply Int.le_of_not_gt
        intro hlt
        have h0 := first_mono (a := z + 1) (b := y) (by omega)
        have h1 := HC.out
        have h2 := HF.out
        have h3 := HX.out
        omega
      generalize hL : yearS z = L at *
      clear hL
      go_wp2_with (go_at_call 105; refine (HY.out _).mono ?_; rintro e w' ⟨rfl, rfl⟩)
      go_loopw [0, 7] (fun v i wr => ∃ (k : Nat) (u : Int), k ≤ m ∧ i = .int .i64 ((k : Int) + 1) ∧ v = .int .i64 u ∧ u = n - firstS z - cumS z k ∧ 0 ≤ u ∧ u ≤ 3652058 ∧ Below w.heap.size w wr) (fun _ i _ => (20 - intOf i).toNat)
      case atStart => exact ⟨0, _, by omega, by rfl, rfl, by rw [HX.out]; simp [cumS], by omega, by omega, by (repeat' (first | (with_reducible exact Below.refl _ _) | (with_reducible assumption) | (with_reducible refine balloc ?_ _) | (with_reducible refine Below.drew ?_) | (with_reducible refine bset ?_ ?_ _) | (with_reducible refine bstep ?_ (by with_reducible assumption)) | (with_reducible refine bturn ?_ (by with_reducible assumption) ?_) | go_size))⟩
      case round =>
        obtain ⟨k, u, hk, rfl, rfl, hu, u0, u1, hbl⟩ := hrel
        have HU := Lib.hid hu
        clear hu
        have l0 := len_bd z ((k : Int) + 1)
        obtain ⟨l1, l2⟩ := l0
        have HL : Hid (cumS z (k + 1) = cumS z k + lenS z ((k : Int) + 1)) := by rw [cum_succ]; rfl
        have HZ := Lib.hid (rlength_any z ((k : Int) + 1) (by omega) (by omega))
        generalize lenS z ((k : Int) + 1) = M at *
        by_cases hge2 : M ≤ u
        · have hlt : k < m := by
            apply Nat.lt_of_not_le
            intro hle
            obtain rfl : k = m := by omega
            have h1 := HC.out
            have h2 := HL.out
            have h3 := HU.out
            omega
          go_wp2_with (go_at_call 104; refine (HZ.out _).mono ?_; rintro e w' ⟨rfl, hb'⟩)
          go_roundw
          case rel => exact ⟨k + 1, u - M, by omega, by go_num, rfl, by rw [HU.out, HL.out]; omega, by omega, by omega, by (repeat' (first | (with_reducible exact Below.refl _ _) | (with_reducible assumption) | (with_reducible refine balloc ?_ _) | (with_reducible refine Below.drew ?_) | (with_reducible refine bset ?_ ?_ _) | (with_reducible refine bstep ?_ (by with_reducible assumption)) | (with_reducible refine bturn ?_ (by with_reducible assumption) ?_) | go_size))⟩
          case measure => simp [intOf]; omega
        · obtain rfl : k = m := by
            apply Nat.le_antisymm hk
            apply Nat.le_of_not_lt
            intro hlt
            have h0 := cum_mono z (a := k + 1) (b := m) (by omega)
            have h1 := HC.out
            have h2 := HL.out
            have h3 := HU.out
            omega
          go_wp2_with (go_at_call 104; refine (HZ.out _).mono ?_; rintro e w' ⟨rfl, hb'⟩)
          go_returns
          exact ⟨by rw [← HU.out], by (repeat' (first | (with_reducible exact Below.refl _ _) | (with_reducible assumption) | (with_reducible refine balloc ?_ _) | (with_reducible refine Below.drew ?_) | (with_reducible refine bset ?_ ?_ _) | (with_reducible refine bstep ?_ (by with_reducible assumption)) | (with_reducible refine bturn ?_ (by with_reducible assumption) ?_) | go_size))⟩
end Go.Proofs.YtambpkkllgppdaaGreatDoor.Days
