/- Plain laws of products, and of a quotient of a product by a whole factor. No program in sight. -/
import Derived.Test.YteljkkfnnmikkaaDoorQuoMath
namespace Go.Proofs.YteljkkfnnmikkaaDoor

/-- Mul, as it is reckoned: the rounding may wrap. -/
def mulS (n s n2 s2 : Int) : Res :=
  if soundS n s && soundS n2 s2 then
    if 10 ^ (s + s2 - 6).toNat ≤ (mag n).toNat * (mag n2).toNat / 18446744073709551616 then ⟨0, 0, 3⟩
    else decS (min (s + s2) 6).toNat ((evenQ ((mag n).toNat * (mag n2).toNat) (10 ^ (s + s2 - 6).toNat) % 18446744073709551616 : Nat) : Int) (decide (n < 0) != decide (n2 < 0))
  else ⟨0, 0, 2⟩

theorem bne_comm' (a b : Bool) : (a != b) = (b != a) := by cases a <;> cases b <;> rfl
theorem mulS_comm (n s n2 s2 : Int) : mulS n2 s2 n s = mulS n s n2 s2 := by
  unfold mulS
  rw [Bool.and_comm, Int.add_comm s2 s, Nat.mul_comm (mag n2).toNat, bne_comm']
theorem addS_comm (n s n2 s2 : Int) : addS n2 s2 n s = addS n s n2 s2 := by
  unfold addS
  rw [Bool.and_comm, Int.add_comm (unitsS n2 s2)]

theorem evenQ_one (N : Nat) : evenQ N 1 = N := by
  unfold evenQ
  rw [Nat.div_one, Nat.mod_one, if_neg (by omega)]
  rfl
theorem evenQ_mul (Y b : Nat) (hb : 0 < b) : evenQ (Y * b) b = Y := by
  unfold evenQ
  rw [Nat.mul_div_cancel _ hb, Nat.mul_mod_left, if_neg (by omega)]
  rfl
theorem dec_zero (b : Bool) : decS 6 0 b = ⟨0, 0, 0⟩ := by cases b <;> kernel_rfl
theorem sound_whole {k : Int} (h0 : -32768 ≤ k) (h1 : k ≤ 32767) : soundS k 0 = true := by
  rw [sound_iff]
  apply decide_eq_true
  rw [big_def]
  omega

theorem mul_whole {n s k : Int} (h : soundS n s = true) (h0 : -32768 ≤ k) (h1 : k ≤ 32767) : mulS n s k 0 = decS s.toNat (mag n * mag k) (decide (n < 0) != decide (k < 0)) := by
  obtain ⟨b1, b2, b3, b4, _⟩ := sound_bd h
  unfold mulS
  rw [h, sound_whole h0 h1]
  have hm : (mag n).toNat ≤ 999999999999 := by have := mag_bd b3 b4; omega
  have hk : (mag k).toNat ≤ 32768 := by unfold mag; split <;> omega
  have hp := Nat.mul_le_mul hm hk
  have e0 : (s + 0 - 6).toNat = 0 := by omega
  have e1 : (min (s + 0) 6).toNat = s.toNat := by omega
  rw [e0, e1, Nat.pow_zero, evenQ_one]
  have hc : (((mag n).toNat * (mag k).toNat : Nat) : Int) = mag n * mag k := by
    rw [Int.natCast_mul, Int.toNat_of_nonneg (mag_nn n), Int.toNat_of_nonneg (mag_nn k)]
  rw [← hc]
  generalize (mag n).toNat * (mag k).toNat = N at *
  rw [if_pos (show (true && true) = true from rfl), if_neg (by omega), Nat.mod_eq_of_lt (by omega)]

theorem back_whole {n s k : Int} (h : soundS n s = true) (h0 : -32768 ≤ k) (h1 : k ≤ 32767) (hk : ¬ k = 0) (t : Res) (ht : mulS n s k 0 = t) (he : t.e = 0) : soundS t.n t.s = true ∧ divS t.n t.s k 0 = ⟨n, s, 0⟩ := by
  rw [mul_whole h h0 h1] at ht
  obtain ⟨b1, b2, b3, b4, b5⟩ := sound_bd h
  have hkn : 0 < mag k := by unfold mag; split <;> omega
  by_cases hn : n = 0
  · subst hn
    obtain rfl : s = 0 := by omega
    have ht0 : t = ⟨0, 0, 0⟩ := by
      rw [← ht, show mag 0 = 0 from rfl, Int.zero_mul]
      cases (decide ((0 : Int) < 0) != decide (k < 0)) <;> kernel_rfl
    subst ht0
    refine ⟨h, ?_⟩
    unfold divS
    rw [h, sound_whole h0 h1, if_pos (show (true && true) = true from rfl), if_neg hk]
    have e : evenQ ((mag 0).toNat * 10 ^ ((6 : Int) - 0 + 0).toNat) (mag k).toNat = 0 := by
      rw [show (mag 0).toNat = 0 from rfl, Nat.zero_mul]
      unfold evenQ
      rw [Nat.zero_div, Nat.zero_mod, if_neg (by omega)]
    rw [e]
    exact dec_zero _
  · obtain ⟨X, hX⟩ : ∃ X, mag n * mag k * p10 (6 - s.toNat) = X := ⟨_, rfl⟩
    obtain ⟨g, hg⟩ : ∃ g, (decide (n < 0) != decide (k < 0)) = g := ⟨_, rfl⟩
    rw [hg] at ht
    have hmn : 0 < mag n := by unfold mag; split <;> omega
    have hX0 : 0 < X := by rw [← hX]; exact Int.mul_pos (Int.mul_pos hmn hkn) (p10_pos _)
    have h6 : decS 6 X g = t := by
      rw [← ht, ← hX]
      unfold decS
      have := short_mul (6 - s.toNat) s.toNat (mag n * mag k)
      rw [show s.toNat + (6 - s.toNat) = 6 by omega] at this
      rw [this]
    have hU : mag (unitsS n s) * mag k = X := by
      unfold unitsS
      rw [mag_mul (p10_pos _), show (6 - s).toNat = 6 - s.toNat by omega, ← hX, Int.mul_right_comm]
    obtain ⟨q1, q2⟩ := dec_sound (b := g) (Int.le_of_lt hX0) (fun _ => hX0) (by rw [h6]; exact he)
    rw [h6] at q1 q2
    refine ⟨q1, ?_⟩
    unfold divS
    rw [q1, sound_whole h0 h1, if_pos (show (true && true) = true from rfl), if_neg hk]
    have hNt : (mag t.n).toNat * 10 ^ (6 - t.s + 0).toNat = (mag (unitsS n s)).toNat * (mag k).toNat := by
      apply Int.ofNat.inj
      show (((mag t.n).toNat * 10 ^ (6 - t.s + 0).toNat : Nat) : Int) = (((mag (unitsS n s)).toNat * (mag k).toNat : Nat) : Int)
      rw [Int.natCast_mul, Int.natCast_mul, Int.toNat_of_nonneg (mag_nn _), Int.toNat_of_nonneg (mag_nn _), Int.toNat_of_nonneg (mag_nn _), hU, Int.add_zero]
      show mag t.n * p10 (6 - t.s).toNat = X
      rw [← mag_mul (p10_pos _)]
      show mag (unitsS t.n t.s) = X
      rw [q2]
      unfold mag
      cases g with
      | true => simp only [if_true]; split <;> omega
      | false => simp only [Bool.false_eq_true, if_false]; split <;> omega
    have hsg : (decide (t.n < 0) != decide (k < 0)) = decide (unitsS n s < 0) := by
      have e1 : decide (t.n < 0) = g := by
        rw [← neg_mul_iff (p10_pos (6 - t.s).toNat)]
        show decide (unitsS t.n t.s < 0) = g
        rw [q2]
        cases g with
        | true => simp; omega
        | false => simp; omega
      have e2 : decide (unitsS n s < 0) = decide (n < 0) := neg_mul_iff (p10_pos _)
      rw [e1, e2, ← hg]
      cases decide (n < 0) <;> cases decide (k < 0) <;> rfl
    rw [hNt, evenQ_mul _ _ (by omega), hsg, Int.toNat_of_nonneg (mag_nn _)]
    exact dec_units h

/-- A sum with something greater is greater. -/
theorem cmp_sums {n s n2 s2 n3 s3 : Int} (h1 : (addS n s n2 s2).e = 0) (h2 : (addS n3 s3 n2 s2).e = 0) :
    cmpD (addS n s n2 s2).n (addS n s n2 s2).s (addS n3 s3 n2 s2).n (addS n3 s3 n2 s2).s = cmpD n s n3 s3 ∧ (cmpD n s n3 s3).2 = 0 := by
  have key : ∀ {n s n2 s2 : Int}, (addS n s n2 s2).e = 0 → soundS n s = true ∧ soundS n2 s2 = true ∧ soundS (addS n s n2 s2).n (addS n s n2 s2).s = true ∧ unitsS (addS n s n2 s2).n (addS n s n2 s2).s = unitsS n s + unitsS n2 s2 := by
    intro n s n2 s2 h
    by_cases hb : (soundS n s && soundS n2 s2) = true
    · have hb' := hb
      rw [Bool.and_eq_true] at hb'
      refine ⟨hb'.1, hb'.2, ?_⟩
      have hA : addS n s n2 s2 = decS 6 (mag (unitsS n s + unitsS n2 s2)) (decide (unitsS n s + unitsS n2 s2 < 0)) := by unfold addS; rw [if_pos hb]
      rw [hA] at h ⊢
      obtain ⟨q1, q2⟩ := dec_sound (mag_nn _) (by intro hb; have := of_decide_eq_true hb; unfold mag; split <;> omega) h
      refine ⟨q1, ?_⟩
      rw [q2]
      unfold mag
      by_cases hneg : unitsS n s + unitsS n2 s2 < 0
      · rw [if_pos (decide_eq_true hneg), if_pos hneg]; omega
      · rw [if_neg (by simpa using hneg), if_neg hneg]
    · exfalso
      unfold addS at h
      rw [if_neg hb] at h
      cases h
  obtain ⟨a1, a2, a3, a4⟩ := key h1
  obtain ⟨c1, c2, c3, c4⟩ := key h2
  unfold cmpD
  rw [a1, c1, a3, c3, a4, c4]
  refine ⟨?_, rfl⟩
  unfold cmpS
  simp only [Bool.and_self, if_true]
  have e1 : (unitsS n s + unitsS n2 s2 < unitsS n3 s3 + unitsS n2 s2) = (unitsS n s < unitsS n3 s3) := by apply propext; omega
  have e2 : (unitsS n3 s3 + unitsS n2 s2 < unitsS n s + unitsS n2 s2) = (unitsS n3 s3 < unitsS n s) := by apply propext; omega
  simp only [e1, e2]
theorem cmp_bad {n s n3 s3 : Int} : ((cmpD n s n3 s3).2 = 0) ∨ ((cmpD n s n3 s3).2 = 2) := by
  unfold cmpD
  split
  · exact .inl rfl
  · exact .inr rfl
end Go.Proofs.YteljkkfnnmikkaaDoor
