/- Plain arithmetic of days: no program in sight. -/
import Derived.Test.YtambpkkllgppdaaGreatDoorKit
namespace Go.Proofs.YtambpkkllgppdaaGreatDoor.Days

/-- Whole years that are longer. -/
def leapB (y : Int) : Bool := decide (y % 4 = 0 ∧ (¬ y % 100 = 0 ∨ y % 400 = 0))
def lenS (y m : Int) : Int := if m = 2 then (if leapB y = true then 29 else 28) else if m = 4 ∨ m = 6 ∨ m = 9 ∨ m = 11 then 30 else 31
def firstS (y : Int) : Int := 365 * (y - 1) + (y - 1) / 4 - (y - 1) / 100 + (y - 1) / 400
def yearS (y : Int) : Int := if leapB y = true then 366 else 365
/-- The days of the first months. -/
def cumS (y : Int) : Nat → Int
  | 0 => 0
  | m + 1 => cumS y m + lenS y (m + 1)

theorem leap_iff (y : Int) : leapB y = true ↔ y % 4 = 0 ∧ (¬ y % 100 = 0 ∨ y % 400 = 0) := decide_eq_true_iff
theorem len_bd (y m : Int) : 28 ≤ lenS y m ∧ lenS y m ≤ 31 := by
  unfold lenS
  split
  · split <;> omega
  · split <;> omega
theorem first_succ (y : Int) : firstS (y + 1) = firstS y + yearS y := by
  unfold firstS yearS
  by_cases h : leapB y = true
  · rw [if_pos h]; rw [leap_iff] at h; omega
  · rw [if_neg h]; rw [leap_iff] at h; omega
theorem year_bd (y : Int) : 365 ≤ yearS y ∧ yearS y ≤ 366 := by unfold yearS; split <;> omega
theorem cum_12 (y : Int) : cumS y 12 = yearS y := by
  unfold yearS
  by_cases h : leapB y = true
  · simp [cumS, lenS, h]
  · simp [cumS, lenS, h]
theorem cum_succ (y : Int) (m : Nat) : cumS y (m + 1) = cumS y m + lenS y (m + 1) := rfl
theorem cum_mono (y : Int) {a b : Nat} (h : a ≤ b) : cumS y a ≤ cumS y b := by
  induction h with
  | refl => exact Int.le_refl _
  | @step m _ ih => rw [cum_succ]; have := len_bd y (m + 1); omega
theorem cum_bd (y : Int) (m : Nat) : 0 ≤ cumS y m ∧ cumS y m ≤ 31 * m := by
  induction m with
  | zero => simp [cumS]
  | succ k ih => rw [cum_succ]; have := len_bd y (k + 1); omega
theorem first_mono {a b : Int} (h : a ≤ b) : firstS a ≤ firstS b := by unfold firstS; omega
theorem first_1 : firstS 1 = 0 := by decide
theorem first_10000 : firstS 10000 = 3652059 := by decide
theorem first_ge {y : Int} (h : 1 ≤ y) : 365 * (y - 1) ≤ firstS y := by unfold firstS; omega
theorem first_le {y : Int} (h : 1 ≤ y) : firstS y ≤ 366 * (y - 1) := by unfold firstS; omega

/-- A date. -/
def okD (y m d : Int) : Prop := 1 ≤ y ∧ y ≤ 9999 ∧ 1 ≤ m ∧ m ≤ 12 ∧ 1 ≤ d ∧ d ≤ lenS y m
instance (y m d : Int) : Decidable (okD y m d) := by unfold okD; exact inferInstance
def dayN (y m d : Int) : Int := firstS y + cumS y (m - 1).toNat + (d - 1)

theorem year_of (n : Int) (h0 : 0 ≤ n) : ∀ k : Nat, n < firstS (k + 1) → ∃ y : Int, 1 ≤ y ∧ y ≤ k ∧ firstS y ≤ n ∧ n < firstS (y + 1)
  | 0, h => by have h1 : firstS ((0 : Nat) + 1 : Int) = 0 := first_1; omega
  | k + 1, h => by
    by_cases hk : firstS (k + 1) ≤ n
    · exact ⟨k + 1, by omega, by omega, hk, by simpa using h⟩
    · obtain ⟨y, a, b, c, d⟩ := year_of n h0 k (by omega)
      exact ⟨y, a, by omega, c, d⟩
theorem month_of (y n : Int) (h0 : 0 ≤ n) : ∀ k : Nat, n < cumS y k → ∃ m : Nat, m < k ∧ cumS y m ≤ n ∧ n < cumS y (m + 1)
  | 0, h => by simp only [cumS] at h; omega
  | k + 1, h => by
    by_cases hk : cumS y k ≤ n
    · exact ⟨k, by omega, hk, h⟩
    · obtain ⟨m, a, b, c⟩ := month_of y n h0 k (by omega)
      exact ⟨m, by omega, b, c⟩
/-- Every day in bounds has a date: year, month less one, and how the day lies in it. -/
theorem date_of (n : Int) (h0 : 0 ≤ n) (h1 : n ≤ 3652058) : ∃ (y : Int) (m : Nat), 1 ≤ y ∧ y ≤ 9999 ∧ m < 12 ∧ firstS y + cumS y m ≤ n ∧ n < firstS y + cumS y (m + 1) ∧ firstS y ≤ n ∧ n < firstS (y + 1) := by
  obtain ⟨y, a, b, c, d⟩ := year_of n h0 9999 (by have := first_10000; show n < firstS ((9999 : Nat) + 1 : Int); simp; omega)
  have hy := first_succ y
  obtain ⟨m, e, f, g⟩ := month_of y (n - firstS y) (by omega) 12 (by rw [cum_12]; omega)
  exact ⟨y, m, a, by omega, e, by omega, by omega, c, d⟩
theorem year_uniq {n y z : Int} (h1 : firstS y ≤ n) (h2 : n < firstS (y + 1)) (h3 : firstS z ≤ n) (h4 : n < firstS (z + 1)) : y = z := by
  rcases Int.lt_trichotomy y z with h | h | h
  · have := first_mono (a := y + 1) (b := z) (by omega); omega
  · exact h
  · have := first_mono (a := z + 1) (b := y) (by omega); omega
theorem month_uniq {n y : Int} {a b : Nat} (h1 : cumS y a ≤ n) (h2 : n < cumS y (a + 1)) (h3 : cumS y b ≤ n) (h4 : n < cumS y (b + 1)) : a = b := by
  rcases Nat.lt_trichotomy a b with h | h | h
  · have := cum_mono y (a := a + 1) (b := b) (by omega); omega
  · exact h
  · have := cum_mono y (a := b + 1) (b := a) (by omega); omega
end Go.Proofs.YtambpkkllgppdaaGreatDoor.Days
