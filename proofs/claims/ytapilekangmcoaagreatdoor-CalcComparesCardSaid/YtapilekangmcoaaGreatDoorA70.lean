/- The walk of the reference's Add. The reference's Add gives what the program's Add gives. -/
import Derived.Deep.DeepCutAuto
import Derived.Test.YtapilekangmcoaaGreatDoorA69
import Derived.Test.YtapilekangmcoaaGreatDoorA10
set_option linter.unusedVariables false
set_option linter.unusedSimpArgs false
set_option maxHeartbeats 8000000
set_option maxRecDepth 100000
namespace Go.Proofs.YtapilekangmcoaaGreatDoor.Dq
open Go.RowKit
attribute [local go_sem high] run_dec_eql run_dec_neq
theorem long_ex (n s : Int) (N t : Nat) (w : World) (b3 : -999999999999 ≤ n) (b4 : n ≤ 999999999999) (hN : mag n = (N : Int)) (hs : s = 12 - (t : Int)) (t0 : 6 ≤ t) (t1 : t ≤ 12) :
   Calls Tryz.prog 107 #[.agg #[.int .i64 n, .int .i64 s]] w fun e w' => (∃ g, e = .returned (.slice (some ⟨g, 0, none⟩) 60 60) ∧ Row w' g 0 60 (N * 10 ^ t)) ∧ Below w.heap.size w w' := by
 refine (long_at n s N t w b3 b4 hN hs t0 t1 _ rfl).mono ?_
 rintro e w' ⟨rfl, hB, hb⟩
 exact ⟨⟨_, rfl, Row.of_blk hB⟩, hb⟩
end Go.Proofs.YtapilekangmcoaaGreatDoor.Dq
namespace Go.Proofs.YtapilekangmcoaaGreatDoor.Dq
open Go.RowKit
/-- A number's size, its row's value, and its units. -/
structure Parts (n s : Int) (N t A : Nat) : Prop where
 mag : mag n = (N : Int)
 sc : s = 12 - (t : Int)
 t0 : 6 ≤ t
 t1 : t ≤ 12
 row : N * 10 ^ t = A * 1000000
 bd : A < 1000000000000000000
 pos : 0 ≤ n → unitsS n s = (A : Int)
 neg : n < 0 → unitsS n s = -(A : Int)
 nz : n < 0 → 0 < A
theorem parts_of {n s : Int} (h : soundS n s = true) : ∃ N t A, Parts n s N t A := by
 obtain ⟨b1, b2, b3, b4, _⟩ := sound_bd h
 have hm := mag_bd b3 b4
 have hm0 := mag_nn n
 obtain ⟨k, hk⟩ : ∃ k : Nat, (6 - s).toNat = k := ⟨_, rfl⟩
 have hk6 : k ≤ 6 := by omega
 have hp : 10 ^ k ≤ 10 ^ 6 := Nat.pow_le_pow_right (by decide) hk6
 have hp0 : 0 < 10 ^ k := Nat.pow_pos (by decide)
 have hu : unitsS n s = n * ((10 ^ k : Nat) : Int) := by unfold unitsS p10; rw [hk]
 refine ⟨(Go.Proofs.YtapilekangmcoaaGreatDoor.mag n).toNat, k + 6, (Go.Proofs.YtapilekangmcoaaGreatDoor.mag n).toNat * 10 ^ k, ⟨by omega, by omega, by omega, by omega, ?_, ?_, ?_, ?_, ?_⟩⟩
 · rw [Nat.pow_add, Nat.mul_assoc]
 · have : (Go.Proofs.YtapilekangmcoaaGreatDoor.mag n).toNat * 10 ^ k ≤ 999999999999 * 10 ^ 6 := Nat.mul_le_mul (by omega) hp
   omega
 · intro h0
   rw [hu, Int.natCast_mul, Int.toNat_of_nonneg hm0]
   congr 1
   unfold Go.Proofs.YtapilekangmcoaaGreatDoor.mag
   rw [if_neg (by omega)]
 · intro h0
   rw [hu, Int.natCast_mul, Int.toNat_of_nonneg hm0, ← Int.neg_mul]
   congr 1
   unfold Go.Proofs.YtapilekangmcoaaGreatDoor.mag
   rw [if_pos h0]
   omega
 · intro h0
   apply Nat.mul_pos _ hp0
   unfold Go.Proofs.YtapilekangmcoaaGreatDoor.mag
   rw [if_pos h0]
   omega
end Go.Proofs.YtapilekangmcoaaGreatDoor.Dq
