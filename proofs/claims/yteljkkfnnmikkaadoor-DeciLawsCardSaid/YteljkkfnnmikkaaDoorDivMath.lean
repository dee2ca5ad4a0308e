/- Plain arithmetic of a quotient of a long number, half word by half word. No program in sight. -/
import Derived.Test.YteljkkfnnmikkaaDoorDeciMath
namespace Go.Proofs.YteljkkfnnmikkaaDoor

/-- The trial quotient x of a by the divisor's upper half y1, with what is left of it, p: never below the true quotient q of a * B + c by y1 * B + y0. -/
structure Trial (B a c y1 y0 q x p : Nat) : Prop where
  eq : x * y1 + p = a
  ge : q ≤ x
  le : x ≤ B + 1

section
variable {B a c y1 y0 q x p : Nat}

/-- The true quotient's place. -/
structure Quo (B a c y1 y0 q : Nat) : Prop where
  le : q * (y1 * B + y0) ≤ a * B + c
  lt : a * B + c < (q + 1) * (y1 * B + y0)
  lo : a < y1 * B + y0
  hc : c < B
  h0 : y0 < B
  h1 : B ≤ 2 * y1
  h1b : y1 < B

theorem Quo.of (h1 : a < y1 * B + y0) (h2 : c < B) (h3 : y0 < B) (h4 : B ≤ 2 * y1) (h5 : y1 < B) : Quo B a c y1 y0 ((a * B + c) / (y1 * B + y0)) := by
  have hY : 0 < y1 * B + y0 := by omega
  refine ⟨Nat.div_mul_le_self _ _, ?_, h1, h2, h3, h4, h5⟩
  have := Nat.lt_div_mul_add (a := a * B + c) hY
  rw [Nat.add_mul, Nat.one_mul]
  exact this
theorem Quo.small (Q : Quo B a c y1 y0 q) : q < B := by
  apply Nat.lt_of_not_le
  intro hle
  have h1 : B * (y1 * B + y0) ≤ q * (y1 * B + y0) := Nat.mul_le_mul_right _ hle
  have h2 : (a + 1) * B ≤ (y1 * B + y0) * B := Nat.mul_le_mul_right _ Q.lo
  have h3 := Q.le
  have h4 := Q.hc
  rw [Nat.mul_comm B] at h1
  rw [Nat.add_mul, Nat.one_mul] at h2
  omega
theorem Trial.start (Q : Quo B a c y1 y0 q) : Trial B a c y1 y0 q (a / y1) (a % y1) := by
  have hy : 0 < y1 := by have := Q.h1; have := Q.hc; omega
  refine ⟨by rw [Nat.mul_comm]; exact Nat.div_add_mod a y1, ?_, ?_⟩
  · rw [Nat.le_div_iff_mul_le hy]
    apply Nat.le_of_lt_succ
    apply Nat.lt_of_mul_lt_mul_right (a := B)
    have h1 := Q.le
    have h2 := Q.hc
    rw [Nat.mul_add, ← Nat.mul_assoc] at h1
    rw [Nat.succ_mul]
    omega
  · have h1 := Q.lo
    have h2 := Q.h0
    have h3 := Q.h1
    have h4 : a < (B + 2) * y1 := by rw [Nat.add_mul, Nat.mul_comm B]; omega
    have := (Nat.div_lt_iff_lt_mul hy).2 h4
    omega
/-- x * (y1 * B + y0) against a * B + c. -/
theorem Trial.cmp (T : Trial B a c y1 y0 q x p) : x * (y1 * B + y0) + p * B = a * B + x * y0 := by
  have h := T.eq
  have h2 : a * B = x * y1 * B + p * B := by rw [← h, Nat.add_mul]
  rw [Nat.mul_add, ← Nat.mul_assoc]
  omega
theorem Trial.over (Q : Quo B a c y1 y0 q) (T : Trial B a c y1 y0 q x p) (h : B ≤ x ∨ B * p + c < x * y0) : q + 1 ≤ x := by
  rcases h with h | h
  · have := Q.small; omega
  · apply Nat.lt_of_not_le
    intro hle
    have h1 : x * (y1 * B + y0) ≤ q * (y1 * B + y0) := Nat.mul_le_mul_right _ hle
    have h2 := Q.le
    have h3 := T.cmp
    rw [Nat.mul_comm B] at h
    omega
theorem Trial.next (Q : Quo B a c y1 y0 q) (T : Trial B a c y1 y0 q x p) (h : B ≤ x ∨ B * p + c < x * y0) : Trial B a c y1 y0 q (x - 1) (p + y1) := by
  have h1 := T.over Q h
  have h2 := T.le
  refine ⟨?_, by omega, by omega⟩
  obtain ⟨z, rfl⟩ : ∃ z, x = z + 1 := ⟨x - 1, by omega⟩
  have := T.eq
  rw [Nat.add_mul, Nat.one_mul] at this
  rw [Nat.add_sub_cancel]
  omega
theorem Trial.fits (Q : Quo B a c y1 y0 q) (T : Trial B a c y1 y0 q x p) (h : x * y0 ≤ B * p + c) : x = q := by
  apply Nat.le_antisymm _ T.ge
  apply Nat.le_of_lt_succ
  apply Nat.lt_of_mul_lt_mul_right (a := y1 * B + y0)
  have h1 := Q.lt
  have h2 := T.cmp
  rw [Nat.mul_comm B] at h
  show x * (y1 * B + y0) < (q + 1) * (y1 * B + y0)
  omega
theorem Trial.done (Q : Quo B a c y1 y0 q) (T : Trial B a c y1 y0 q x p) (h : ¬ (B ≤ x ∨ B * p + c < x * y0)) : x = q := T.fits Q (by omega)
theorem Trial.broke (Q : Quo B a c y1 y0 q) (T : Trial B a c y1 y0 q x p) (hx : x ≤ B) (hp : B ≤ p) : x = q := by
  refine T.fits Q ?_
  have h0 := Q.h0
  have h1 : x * y0 ≤ B * y0 := Nat.mul_le_mul_right _ hx
  have h2 : B * y0 ≤ B * p := Nat.mul_le_mul_left _ (by omega)
  omega
end
end Go.Proofs.YteljkkfnnmikkaaDoor
