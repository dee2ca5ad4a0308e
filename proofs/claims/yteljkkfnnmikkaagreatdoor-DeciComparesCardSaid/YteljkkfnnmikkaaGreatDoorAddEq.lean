/- The reference's Add gives what the program's Add gives. -/
import Derived.Test.YteljkkfnnmikkaaGreatDoorRefAdd
import Derived.Test.YteljkkfnnmikkaaGreatDoorDeciD
namespace Go.Proofs.YteljkkfnnmikkaaGreatDoor
open Go.RowKit

/-- A number's size, its row's value, and its units. -/
structure Parts (n s : Int) (N t A : Nat) : Prop where
  mag : mag n = (N : Int)
  sc : s = 12 - (t : Int)
  t0 : 6 ≤ t
  t1 : t ≤ 12
  row : N * 10 ^ t = A * 1000000
  bd : A < 1000000000000000000
  pos : 0 ≤ n → unitsS n s = (A : Int)
  neg : n < 0 → unitsS n s = -(A : Int)
  nz : n < 0 → 0 < A
theorem parts_of {n s : Int} (h : soundS n s = true) : ∃ N t A, Parts n s N t A := by
  obtain ⟨b1, b2, b3, b4, _⟩ := sound_bd h
  have hm := mag_bd b3 b4
  have hm0 := mag_nn n
  obtain ⟨k, hk⟩ : ∃ k : Nat, (6 - s).toNat = k := ⟨_, rfl⟩
  have hk6 : k ≤ 6 := by omega
  have hp : 10 ^ k ≤ 10 ^ 6 := Nat.pow_le_pow_right (by decide) hk6
  have hp0 : 0 < 10 ^ k := Nat.pow_pos (by decide)
  have hu : unitsS n s = n * ((10 ^ k : Nat) : Int) := by unfold unitsS p10; rw [hk]
  refine ⟨(Go.Proofs.YteljkkfnnmikkaaGreatDoor.mag n).toNat, k + 6, (Go.Proofs.YteljkkfnnmikkaaGreatDoor.mag n).toNat * 10 ^ k, ⟨by omega, by omega, by omega, by omega, ?_, ?_, ?_, ?_, ?_⟩⟩
  · rw [Nat.pow_add, Nat.mul_assoc]
  · have : (Go.Proofs.YteljkkfnnmikkaaGreatDoor.mag n).toNat * 10 ^ k ≤ 999999999999 * 10 ^ 6 := Nat.mul_le_mul (by omega) hp
    omega
  · intro h0
    rw [hu, Int.natCast_mul, Int.toNat_of_nonneg hm0]
    congr 1
    unfold Go.Proofs.YteljkkfnnmikkaaGreatDoor.mag
    rw [if_neg (by omega)]
  · intro h0
    rw [hu, Int.natCast_mul, Int.toNat_of_nonneg hm0, ← Int.neg_mul]
    congr 1
    unfold Go.Proofs.YteljkkfnnmikkaaGreatDoor.mag
    rw [if_pos h0]
    omega
  · intro h0
    apply Nat.mul_pos _ hp0
    unfold Go.Proofs.YteljkkfnnmikkaaGreatDoor.mag
    rw [if_pos h0]
    omega
theorem decS_zero : decS 6 0 true = decS 6 0 false := by kernel_rfl

theorem radd_any (n s n2 s2 : Int) (hn : I64 n) (hs : I64 s) (hn2 : I64 n2) (hs2 : I64 s2) (w : World) :
    Calls Tryz.prog 6 #[.agg #[.int .i64 n, .int .i64 s], .agg #[.int .i64 n2, .int .i64 s2]] w fun e w' => e = .returned (.tuple #[.agg #[.int .i64 (addS n s n2 s2).n, .int .i64 (addS n s n2 s2).s], .int .i64 (addS n s n2 s2).e]) ∧ Below w.heap.size w w' := by
  by_cases h : (soundS n s && soundS n2 s2) = true
  · have hA : addS n s n2 s2 = decS 6 (mag (unitsS n s + unitsS n2 s2)) (decide (unitsS n s + unitsS n2 s2 < 0)) := by unfold addS; rw [if_pos h]
    rw [Bool.and_eq_true] at h
    obtain ⟨h1, h2⟩ := h
    obtain ⟨N, t, A, P⟩ := parts_of h1
    obtain ⟨N2, t2, A2, P2⟩ := parts_of h2
    have r1 := P.row
    have r2 := P2.row
    have q1 := P.bd
    have q2 := P2.bd
    have e40 : (10 : Nat) ^ 40 = 10000000000000000000000000000000000000000 := by decide
    have e60 : (10 : Nat) ^ 60 = 1000000000000000000000000000000000000000000000000000000000000 := by decide
    by_cases hsame : decide (n < 0) = decide (n2 < 0)
    · have hr : addS n s n2 s2 = decS 6 ((A + A2 : Nat) : Int) (decide (n < 0)) := by
        rw [hA]
        by_cases h0 : n < 0
        · have h02 : n2 < 0 := by rw [decide_eq_true h0] at hsame; exact of_decide_eq_true hsame.symm
          rw [P.neg h0, P2.neg h02, decide_eq_true h0]
          have := P.nz h0
          unfold mag
          rw [if_pos (by omega), decide_eq_true (by omega : -(A : Int) + -(A2 : Int) < 0)]
          congr 1
          omega
        · have h02 : ¬ n2 < 0 := by rw [decide_eq_false h0] at hsame; exact of_decide_eq_false hsame.symm
          rw [P.pos (by omega), P2.pos (by omega), decide_eq_false h0]
          unfold mag
          rw [if_neg (by omega), decide_eq_false (by omega : ¬ (A : Int) + (A2 : Int) < 0)]
          congr 1
      rw [hr]
      exact radd_same n s n2 s2 N t N2 t2 (A + A2) (decide (n < 0)) hn hs hn2 hs2 h1 h2 P.mag P.sc P2.mag P2.sc P.t0 P.t1 P2.t0 P2.t1 rfl hsame.symm (by rw [r1, r2]; omega) (by rw [r1, r2]; omega) w
    · have hpq : (decide (n < 0) == decide (n2 < 0)) = false := by simpa using hsame
      by_cases hlt : A < A2
      · have hr : addS n s n2 s2 = decS 6 ((A2 - A : Nat) : Int) (decide (n2 < 0)) := by
          rw [hA]
          by_cases h0 : n < 0
          · have h02 : ¬ n2 < 0 := fun h02 => hsame (by rw [decide_eq_true h0, decide_eq_true h02])
            rw [P.neg h0, P2.pos (by omega), decide_eq_false h02]
            unfold mag
            rw [if_neg (by omega), decide_eq_false (by omega : ¬ -(A : Int) + (A2 : Int) < 0)]
            congr 1
            omega
          · have h02 : n2 < 0 := Classical.byContradiction fun h02 => hsame (by rw [decide_eq_false h0, decide_eq_false h02])
            rw [P.pos (by omega), P2.neg h02, decide_eq_true h02]
            unfold mag
            rw [if_pos (by omega), decide_eq_true (by omega : (A : Int) + -(A2 : Int) < 0)]
            congr 1
            omega
        rw [hr]
        exact radd_less n s n2 s2 N t N2 t2 (A2 - A) ((A2 - A) * 1000000) (decide (n < 0)) (decide (n2 < 0)) hn hs hn2 hs2 h1 h2 P.mag P.sc P2.mag P2.sc P.t0 P.t1 P2.t0 P2.t1 rfl rfl hpq (by rw [r1]; omega) (by rw [r2]; omega) (by rw [r1, r2]; simp; omega) (by rw [r1, r2]; omega) rfl (by omega) w
      · have hr : addS n s n2 s2 = decS 6 ((A - A2 : Nat) : Int) (decide (n < 0)) := by
          rw [hA]
          by_cases h0 : n < 0
          · have h02 : ¬ n2 < 0 := fun h02 => hsame (by rw [decide_eq_true h0, decide_eq_true h02])
            rw [P.neg h0, P2.pos (by omega), decide_eq_true h0]
            by_cases hz : A = A2
            · subst hz
              rw [show -(A : Int) + (A : Int) = 0 by omega, Nat.sub_self]
              exact decS_zero.symm
            · unfold mag
              rw [if_pos (by omega), decide_eq_true (by omega : -(A : Int) + (A2 : Int) < 0)]
              congr 1
              omega
          · have h02 : n2 < 0 := Classical.byContradiction fun h02 => hsame (by rw [decide_eq_false h0, decide_eq_false h02])
            rw [P.pos (by omega), P2.neg h02, decide_eq_false h0]
            unfold mag
            rw [if_neg (by omega), decide_eq_false (by omega : ¬ (A : Int) + -(A2 : Int) < 0)]
            congr 1
            omega
        rw [hr]
        exact radd_geq n s n2 s2 N t N2 t2 (A - A2) ((A - A2) * 1000000) (decide (n < 0)) (decide (n2 < 0)) hn hs hn2 hs2 h1 h2 P.mag P.sc P2.mag P2.sc P.t0 P.t1 P2.t0 P2.t1 rfl rfl hpq (by rw [r1]; omega) (by rw [r2]; omega) (by rw [r1, r2]; simp; omega) (by rw [r1, r2]; omega) rfl (by omega) w
  · have hA : addS n s n2 s2 = ⟨0, 0, 2⟩ := by unfold addS; rw [if_neg h]
    rw [hA]
    exact radd_form n s n2 s2 hn hs hn2 hs2 h w
end Go.Proofs.YteljkkfnnmikkaaGreatDoor
