/- Plain arithmetic of numbers of few digits: no program in sight. -/
import Derived.Test.YtlmcjnekkhdmiaaDoorKit
set_option linter.unusedVariables false
set_option linter.unusedSimpArgs false
namespace Go.Proofs.YtlmcjnekkhdmiaaDoor

def p10 (n : Nat) : Int := ((10 ^ n : Nat) : Int)
theorem p10_zero : p10 0 = 1 := rfl
theorem p10_succ (n : Nat) : p10 (n + 1) = p10 n * 10 := by unfold p10; rw [Nat.pow_succ]; omega
theorem p10_pos (n : Nat) : 0 < p10 n := by unfold p10; exact Int.natCast_pos.2 (Nat.pos_of_ne_zero (by simp))
theorem p10_mono {a b : Nat} (h : a ≤ b) : p10 a ≤ p10 b := by unfold p10; exact Int.ofNat_le.2 (Nat.pow_le_pow_right (by omega) h)
theorem p10_12 : p10 12 = 1000000000000 := by decide
theorem p10_6 : p10 6 = 1000000 := by decide
theorem p10_add (a b : Nat) : p10 (a + b) = p10 a * p10 b := by unfold p10; rw [Nat.pow_add]; exact Int.natCast_mul _ _

/-- The shortest form of n over ten to the power s, n from 0 on. -/
def short : Nat → Int → Int × Int
  | 0, n => (n, 0)
  | k + 1, n => if n % 10 = 0 then short k (n / 10) else (n, k + 1)
theorem short_stop {k : Nat} {n : Int} (h : k = 0 ∨ ¬ n % 10 = 0) : short k n = (n, (k : Int)) := by
  cases k with
  | zero => rfl
  | succ k => rw [short, if_neg (by rcases h with h | h; · omega
                                    · exact h)]; rfl
theorem short_go {k : Nat} {n : Int} (h : n % 10 = 0) : short (k + 1) n = short k (n / 10) := by rw [short, if_pos h]
theorem short_bd : ∀ (k : Nat) (n : Int), 0 ≤ n → 0 ≤ (short k n).1 ∧ (short k n).1 ≤ n ∧ 0 ≤ (short k n).2 ∧ (short k n).2 ≤ k
  | 0, n, h => by simp only [short]; omega
  | k + 1, n, h => by
    rw [short]
    split
    · have := short_bd k (n / 10) (by omega); omega
    · simp only; omega

def big : Int := 999999999999
theorem big_def : big = 999999999999 := rfl

/-- A number (N, Scale) beside an error's number. -/
structure Res where
  n : Int
  s : Int
  e : Int

/-- n over ten to the power k, with a sign, as a number. -/
def decS (k : Nat) (n : Int) (minus : Bool) : Res :=
  if big < (short k n).1 then ⟨0, 0, 3⟩ else ⟨if minus then -(short k n).1 else (short k n).1, (short k n).2, 0⟩
def mag (n : Int) : Int := if n < 0 then -n else n
theorem mag_nn (n : Int) : 0 ≤ mag n := by unfold mag; split <;> omega
def makeS (n s : Int) : Res := if s < 0 ∨ 6 < s ∨ big < n ∨ n < -big then ⟨0, 0, 3⟩ else decS s.toNat (mag n) (decide (n < 0))
/-- Is (n, s) a number in its shortest form? -/
def soundB (n s : Int) : Bool := decide (0 ≤ s ∧ s ≤ 6 ∧ -big ≤ n ∧ n ≤ big ∧ (s = 0 ∨ ¬ n % 10 = 0))
end Go.Proofs.YtlmcjnekkhdmiaaDoor
