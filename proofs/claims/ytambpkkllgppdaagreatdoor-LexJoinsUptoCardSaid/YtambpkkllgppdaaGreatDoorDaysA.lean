/- The walks of package days: Leap, length, first, Day, Date. -/
import Derived.Test.YtambpkkllgppdaaGreatDoorDaysMath
import Derived.Deep.LoopGhost
namespace Go.Proofs.YtambpkkllgppdaaGreatDoor.Days
open Go.RowKit

def I64 (n : Int) : Prop := -9223372036854775808 ≤ n ∧ n ≤ 9223372036854775807
theorem rem_bd (u : Int) {B : Int} (hB : 0 < B) : -B < u.tmod B ∧ u.tmod B < B ∧ (u.tmod B = 0 ↔ u % B = 0) := by
  by_cases h : 0 ≤ u
  · rw [Int.tmod_eq_emod_of_nonneg h]
    have h1 := Int.emod_nonneg u (b := B) (by omega)
    have h2 := Int.emod_lt_of_pos u hB
    exact ⟨by omega, h2, Iff.rfl⟩
  · obtain ⟨v, rfl⟩ : ∃ v, u = -v := ⟨-u, by omega⟩
    rw [Int.neg_tmod, Int.tmod_eq_emod_of_nonneg (by omega : 0 ≤ v)]
    have h1 := Int.emod_nonneg v (b := B) (by omega)
    have h2 := Int.emod_lt_of_pos v hB
    refine ⟨by omega, by omega, ?_⟩
    rw [show (-v % B = 0) ↔ (v % B = 0) from ⟨fun h => Int.emod_eq_zero_of_dvd (Int.dvd_neg.1 (Int.dvd_of_emod_eq_zero h)), fun h => Int.emod_eq_zero_of_dvd (Int.dvd_neg.2 (Int.dvd_of_emod_eq_zero h))⟩]
    omega

theorem leap_core (y r4 r100 r400 : Int) (h4 : y.tmod 4 = r4) (h100 : y.tmod 100 = r100) (h400 : y.tmod 400 = r400) (k4 : IntKind.i64.wrap r4 = r4) (k100 : IntKind.i64.wrap r100 = r100) (k400 : IntKind.i64.wrap r400 = r400) (w : World) :
    Calls Tryz.prog 131 #[.int .i64 y] w fun e w' => e = .returned (.bool (r4 == 0 && (!(r100 == 0) || r400 == 0))) ∧ w = w' := by
  by_cases z4 : r4 = 0
  · subst z4
    by_cases z1 : r100 = 0
    · subst z1
      go_enter Tryz.func131, Tryz.ntmps131
      go_wp2
      go_ret
      exact ⟨rfl, rfl⟩
    · have z1' : (r100 == 0) = false := by simpa using z1
      go_enter Tryz.func131, Tryz.ntmps131
      go_wp2
      go_ret
      exact ⟨by simp [z1'], rfl⟩
  · have z4' : (r4 == 0) = false := by simpa using z4
    go_enter Tryz.func131, Tryz.ntmps131
    go_wp2
    go_ret
    exact ⟨by simp [z4'], rfl⟩
theorem rleap_core (y r4 r100 r400 : Int) (h4 : y.tmod 4 = r4) (h100 : y.tmod 100 = r100) (h400 : y.tmod 400 = r400) (k4 : IntKind.i64.wrap r4 = r4) (k100 : IntKind.i64.wrap r100 = r100) (k400 : IntKind.i64.wrap r400 = r400) (w : World) :
    Calls Tryz.prog 133 #[.int .i64 y] w fun e w' => e = .returned (.bool (r400 == 0 || (r4 == 0 && !(r100 == 0)))) ∧ w = w' := by
  by_cases z4 : r400 = 0
  · subst z4
    go_enter Tryz.func133, Tryz.ntmps133
    go_wp2
    go_ret
    exact ⟨rfl, rfl⟩
  · have z4' : (r400 == 0) = false := by simpa using z4
    by_cases z1 : r4 = 0
    · subst z1
      go_enter Tryz.func133, Tryz.ntmps133
      go_wp2
      go_ret
      exact ⟨by simp only [z4']; rfl, rfl⟩
    · have z1' : (r4 == 0) = false := by simpa using z1
      go_enter Tryz.func133, Tryz.ntmps133
      go_wp2
      go_ret
      exact ⟨by simp [z4', z1'], rfl⟩
theorem leap_any (y : Int) (w : World) : Calls Tryz.prog 131 #[.int .i64 y] w fun e w' => e = .returned (.bool (leapB y)) ∧ w = w' := by
  have b4 := rem_bd y (B := 4) (by decide)
  have b100 := rem_bd y (B := 100) (by decide)
  have b400 := rem_bd y (B := 400) (by decide)
  refine (leap_core y _ _ _ rfl rfl rfl (IntWalk.i64_in _ (by omega)) (IntWalk.i64_in _ (by omega)) (IntWalk.i64_in _ (by omega)) w).mono ?_
  rintro e w' ⟨rfl, rfl⟩
  refine ⟨?_, rfl⟩
  congr 2
  rw [Bool.eq_iff_iff, leap_iff]
  simp [b4.2.2, b100.2.2, b400.2.2]
theorem rleap_any (y : Int) (w : World) : Calls Tryz.prog 133 #[.int .i64 y] w fun e w' => e = .returned (.bool (leapB y)) ∧ w = w' := by
  have b4 := rem_bd y (B := 4) (by decide)
  have b100 := rem_bd y (B := 100) (by decide)
  have b400 := rem_bd y (B := 400) (by decide)
  refine (rleap_core y _ _ _ rfl rfl rfl (IntWalk.i64_in _ (by omega)) (IntWalk.i64_in _ (by omega)) (IntWalk.i64_in _ (by omega)) w).mono ?_
  rintro e w' ⟨rfl, rfl⟩
  refine ⟨?_, rfl⟩
  congr 2
  rw [Bool.eq_iff_iff, leap_iff]
  simp [b4.2.2, b100.2.2, b400.2.2]
  omega

theorem length_any (y m : Int) (w : World) : Calls Tryz.prog 100 #[.int .i64 y, .int .i64 m] w fun e w' => e = .returned (.int .i64 (lenS y m)) ∧ w = w' := by
  have HL : Hid (∀ b, leapB y = b → lenS y m = if m = 2 then (if b = true then 29 else 28) else if m = 4 ∨ m = 6 ∨ m = 9 ∨ m = 11 then 30 else 31) := fun b hb => by subst hb; rfl
  have HY := Lib.hid (leap_any y)
  generalize lenS y m = L at *
  generalize hlb : leapB y = b at *
  have HL2 := Lib.hid (HL.out b rfl)
  clear HL hlb
  by_cases h2 : m = 2
  · subst h2
    cases b
    all_goals
      go_enter Tryz.func100, Tryz.ntmps100
      go_wp2_with (go_at_call 131; refine (HY.out _).mono ?_; rintro e w' ⟨rfl, rfl⟩)
      go_ret
      exact ⟨by rw [HL2.out]; rfl, rfl⟩
  by_cases h4 : m = 4
  · subst h4
    go_enter Tryz.func100, Tryz.ntmps100
    go_wp2
    go_ret
    exact ⟨by rw [HL2.out]; rfl, rfl⟩
  by_cases h6 : m = 6
  · subst h6
    go_enter Tryz.func100, Tryz.ntmps100
    go_wp2
    go_ret
    exact ⟨by rw [HL2.out]; rfl, rfl⟩
  by_cases h9 : m = 9
  · subst h9
    go_enter Tryz.func100, Tryz.ntmps100
    go_wp2
    go_ret
    exact ⟨by rw [HL2.out]; rfl, rfl⟩
  by_cases h11 : m = 11
  · subst h11
    go_enter Tryz.func100, Tryz.ntmps100
    go_wp2
    go_ret
    exact ⟨by rw [HL2.out]; rfl, rfl⟩
  have e2 : (m == 2) = false := by simpa using h2
  have e4 : (m == 4) = false := by simpa using h4
  have e6 : (m == 6) = false := by simpa using h6
  have e9 : (m == 9) = false := by simpa using h9
  have e11 : (m == 11) = false := by simpa using h11
  go_enter Tryz.func100, Tryz.ntmps100
  go_wp2
  go_ret
  exact ⟨by rw [HL2.out, if_neg h2, if_neg (by omega)]; rfl, rfl⟩

theorem first_any (y : Int) (h0 : 1 ≤ y) (h1 : y ≤ 10000) (w : World) : Calls Tryz.prog 101 #[.int .i64 y] w fun e w' => e = .returned (.int .i64 (firstS y)) ∧ w = w' := by
  obtain ⟨k, rfl⟩ : ∃ k, y = k + 1 := ⟨y - 1, by omega⟩
  have hF : firstS (k + 1) = 365 * k + k / 4 - k / 100 + k / 400 := by unfold firstS; rw [Int.add_sub_cancel]
  have HF := Lib.hid hF
  clear hF
  have e : k + 1 - 1 = k := Int.add_sub_cancel _ _
  have g0 : 0 ≤ k := by omega
  have g1 : k ≤ 9999 := by omega
  clear h0 h1
  go_enter Tryz.func101, Tryz.ntmps101
  go_wp2
  go_ret
  exact ⟨by rw [HF.out]; rfl, rfl⟩
end Go.Proofs.YtambpkkllgppdaaGreatDoor.Days
