/- Plain arithmetic of rows of digits: no program in sight. -/
import Derived.Test.YtlmcjnekkhdmiaaDoorDeciMath
set_option linter.unusedVariables false
set_option linter.unusedSimpArgs false
namespace Go.Proofs.YtlmcjnekkhdmiaaDoor

/-- The digit of X at place j, the lowest first. -/
def dig (X j : Nat) : Nat := X / 10 ^ j % 10
theorem dig_lt (X j : Nat) : dig X j < 10 := Nat.mod_lt _ (by decide)
theorem t10 (i : Nat) : 0 < 10 ^ i := Nat.pow_pos (by decide)
theorem dig_div (X k j : Nat) : dig (X / 10 ^ k) j = dig X (j + k) := by
  unfold dig; rw [Nat.div_div_eq_div_mul, ← Nat.pow_add, Nat.add_comm]
theorem div_succ (X i : Nat) : X / 10 ^ (i + 1) = X / 10 ^ i / 10 := by rw [Nat.pow_succ, Nat.div_div_eq_div_mul]
theorem dig_mod_lt {X i j : Nat} (h : j < i) : dig (X % 10 ^ i) j = dig X j := by
  unfold dig
  obtain ⟨k, rfl⟩ : ∃ k, i = j + (k + 1) := ⟨i - j - 1, by omega⟩
  rw [Nat.pow_add, Nat.mod_mul_right_div_self, Nat.pow_succ, Nat.mod_mod_of_dvd _ (Nat.dvd_mul_left 10 _)]
theorem dig_mod_ge {X i j : Nat} (h : i ≤ j) : dig (X % 10 ^ i) j = 0 := by
  unfold dig
  have h1 : X % 10 ^ i < 10 ^ i := Nat.mod_lt _ (t10 i)
  have h2 : 10 ^ i ≤ 10 ^ j := Nat.pow_le_pow_right (by decide) h
  rw [Nat.div_eq_of_lt (by omega)]
theorem dig_lt_pow {X i j : Nat} (hX : X < 10 ^ i) (h : i ≤ j) : dig X j = 0 := by
  rw [← Nat.mod_eq_of_lt hX]; exact dig_mod_ge h
theorem dig_mul_ge {X k j : Nat} (h : k ≤ j) : dig (X * 10 ^ k) j = dig X (j - k) := by
  unfold dig
  obtain ⟨m, rfl⟩ : ∃ m, j = m + k := ⟨j - k, by omega⟩
  rw [Nat.add_sub_cancel, Nat.pow_add, Nat.mul_div_mul_right _ _ (t10 k)]
theorem dig_mul_lt {X k j : Nat} (h : j < k) : dig (X * 10 ^ k) j = 0 := by
  unfold dig
  obtain ⟨m, rfl⟩ : ∃ m, k = m + 1 + j := ⟨k - j - 1, by omega⟩
  rw [Nat.pow_add, ← Nat.mul_assoc, Nat.mul_div_cancel _ (t10 j), Nat.pow_succ, ← Nat.mul_assoc, Nat.mul_mod_left]
theorem dig_zero (j : Nat) : dig 0 j = 0 := by unfold dig; simp
theorem mod_succ (X i : Nat) : X % 10 ^ (i + 1) = X % 10 ^ i + 10 ^ i * dig X i := by
  unfold dig
  rw [Nat.pow_succ, Nat.mod_mul]

/-- Cells that hold the digits of X, so many. -/
def rowA (X n : Nat) : Array Value := ((List.range n).map fun j => Value.int .i64 (dig X j)).toArray
theorem rowA_size (X n : Nat) : (rowA X n).size = n := by simp [rowA]
theorem rowA_get (X : Nat) {n j : Nat} (h : j < n) : (rowA X n)[j]? = some (.int .i64 (dig X j)) := by simp [rowA, h]
theorem rowA_set {X Y n i : Nat} {v : Int} (h1 : i < n → (dig Y i : Int) = v) (h2 : ∀ j, j < n → j ≠ i → dig Y j = dig X j) : (rowA X n).setIfInBounds i (.int .i64 v) = rowA Y n := by
  apply Array.ext_getElem?
  intro j
  rw [Array.getElem?_setIfInBounds]
  by_cases hj : j < n
  · rw [rowA_get _ hj, rowA_get _ hj]
    by_cases e : i = j
    · subst e
      rw [if_pos rfl, if_pos (by rw [rowA_size]; exact hj), h1 hj]
    · rw [if_neg e, h2 j hj (fun h => e h.symm)]
  · rw [Array.getElem?_eq_none (by rw [rowA_size]; omega), Array.getElem?_eq_none (by rw [rowA_size]; omega)]
    by_cases e : i = j
    · subst e
      rw [if_pos rfl, if_neg (by rw [rowA_size]; exact hj)]
    · rw [if_neg e]
/-- The next digit of a sum, a difference, laid from below. -/
theorem rowA_up {X n i : Nat} {v : Int} (h : (dig X i : Int) = v) : (rowA (X % 10 ^ i) n).setIfInBounds i (.int .i64 v) = rowA (X % 10 ^ (i + 1)) n := by
  refine rowA_set (fun _ => by rw [dig_mod_lt (by omega)]; exact h) fun j _ hne => ?_
  by_cases hj : j < i
  · rw [dig_mod_lt (by omega), dig_mod_lt hj]
  · rw [dig_mod_ge (by omega), dig_mod_ge (by omega)]
/-- The next digit, laid from above. -/
theorem rowA_down {X n i : Nat} {v : Int} (h : (dig X i : Int) = v) : (rowA (X / 10 ^ (i + 1) * 10 ^ (i + 1)) n).setIfInBounds i (.int .i64 v) = rowA (X / 10 ^ i * 10 ^ i) n := by
  refine rowA_set (fun _ => by rw [dig_mul_ge (Nat.le_refl _), dig_div, Nat.sub_self, Nat.zero_add]; exact h) fun j _ hne => ?_
  by_cases hj : j < i
  · rw [dig_mul_lt hj, dig_mul_lt (by omega)]
  · rw [dig_mul_ge (by omega), dig_mul_ge (by omega), dig_div, dig_div]
    congr 1
    omega
/-- The next digit of a row that lies k places higher. -/
theorem rowA_high {X n i k : Nat} {v : Int} (h : (dig X i : Int) = v) : (rowA (X % 10 ^ i * 10 ^ k) n).setIfInBounds (i + k) (.int .i64 v) = rowA (X % 10 ^ (i + 1) * 10 ^ k) n := by
  refine rowA_set (fun _ => by rw [dig_mul_ge (by omega), Nat.add_sub_cancel, dig_mod_lt (by omega)]; exact h) fun j _ hne => ?_
  by_cases hj : j < k
  · rw [dig_mul_lt hj, dig_mul_lt hj]
  · rw [dig_mul_ge (by omega), dig_mul_ge (by omega)]
    by_cases hi : j - k < i
    · rw [dig_mod_lt hi, dig_mod_lt (by omega)]
    · rw [dig_mod_ge (by omega), dig_mod_ge (by omega)]
theorem rowA_zero (n : Nat) : Array.replicate n (Value.int .i64 0) = rowA 0 n := by
  apply Array.ext_getElem?
  intro j
  by_cases hj : j < n
  · rw [rowA_get _ hj, dig_zero]; simp [hj]
  · rw [Array.getElem?_eq_none (by simp; omega), Array.getElem?_eq_none (by rw [rowA_size]; omega)]

theorem plus_step {a b c i : Nat} (h : (a + b) / 10 ^ i = a / 10 ^ i + b / 10 ^ i + c) :
    dig (a + b) i = (dig a i + dig b i + c) % 10 ∧ (a + b) / 10 ^ (i + 1) = a / 10 ^ (i + 1) + b / 10 ^ (i + 1) + (dig a i + dig b i + c) / 10 := by
  simp only [div_succ]
  unfold dig
  rw [h]
  omega
theorem less_step {a b i : Nat} (h : a / 10 ^ (i + 1) = b / 10 ^ (i + 1)) (hd : ¬ dig a i = dig b i) : (dig a i < dig b i) = (a < b) := by
  have ha : a / 10 ^ i = a / 10 ^ (i + 1) * 10 + dig a i := by rw [div_succ]; unfold dig; omega
  have hb : b / 10 ^ i = b / 10 ^ (i + 1) * 10 + dig b i := by rw [div_succ]; unfold dig; omega
  apply propext
  constructor
  · intro hlt
    have : a / 10 ^ i < b / 10 ^ i := by omega
    apply Nat.lt_of_not_le
    intro hle
    have := Nat.div_le_div_right (c := 10 ^ i) hle
    omega
  · intro hlt
    have := Nat.div_le_div_right (c := 10 ^ i) (Nat.le_of_lt hlt)
    omega
theorem less_same {a b i : Nat} (h : a / 10 ^ (i + 1) = b / 10 ^ (i + 1)) (hd : dig a i = dig b i) : a / 10 ^ i = b / 10 ^ i := by
  have ha : a / 10 ^ i = a / 10 ^ (i + 1) * 10 + dig a i := by rw [div_succ]; unfold dig; omega
  have hb : b / 10 ^ i = b / 10 ^ (i + 1) * 10 + dig b i := by rw [div_succ]; unfold dig; omega
  omega

/-- X over ten to the power k, rounded to the nearest, of two the even one. -/
def even10 (X k : Nat) : Nat := X / 10 ^ k + if 10 ^ k < 2 * (X % 10 ^ k) ∨ 2 * (X % 10 ^ k) = 10 ^ k ∧ X / 10 ^ k % 2 = 1 then 1 else 0
theorem even10_zero (X : Nat) : even10 X 0 = X := by unfold even10; simp [Nat.mod_one]
/-- The reference's test: the digit behind the last one, what is left behind it, and whether the last one is odd. -/
theorem even10_digits (X k : Nat) : (10 ^ (k + 1) < 2 * (X % 10 ^ (k + 1)) ∨ 2 * (X % 10 ^ (k + 1)) = 10 ^ (k + 1) ∧ X / 10 ^ (k + 1) % 2 = 1) ↔ (5 < dig X k ∨ dig X k = 5 ∧ (¬ X % 10 ^ k = 0 ∨ dig X (k + 1) % 2 = 1)) := by
  have hm := mod_succ X k
  have hd := dig_lt X k
  have hr : X % 10 ^ k < 10 ^ k := Nat.mod_lt _ (t10 k)
  have ho : dig X (k + 1) % 2 = X / 10 ^ (k + 1) % 2 := by unfold dig; omega
  rw [ho]
  generalize X / 10 ^ (k + 1) % 2 = o at *
  rw [hm, Nat.pow_succ]
  generalize X % 10 ^ k = r at *
  generalize 10 ^ k = P at *
  generalize dig X k = d at *
  match d, hd with
  | 0, _ => omega
  | 1, _ => omega
  | 2, _ => omega
  | 3, _ => omega
  | 4, _ => omega
  | 5, _ => omega
  | 6, _ => omega
  | 7, _ => omega
  | 8, _ => omega
  | 9, _ => omega
  | n + 10, h => omega
end Go.Proofs.YtlmcjnekkhdmiaaDoor
