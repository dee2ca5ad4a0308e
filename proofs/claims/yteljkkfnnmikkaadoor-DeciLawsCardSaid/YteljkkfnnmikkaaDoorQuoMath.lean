/- Plain laws of rounded quotients: a long number by a number, and the same by long division digit by digit. No program in sight. -/
import Derived.Test.YteljkkfnnmikkaaDoorAddMath
import Derived.Test.YteljkkfnnmikkaaDoorDigMath
namespace Go.Proofs.YteljkkfnnmikkaaDoor

/-- N over b, rounded to the nearest, of two the even one. -/
def evenQ (N b : Nat) : Nat := N / b + if b < 2 * (N % b) ∨ 2 * (N % b) = b ∧ N / b % 2 = 1 then 1 else 0

/-- The row of long division: its last digit is made to tell whether something is left. -/
def stick (M b : Nat) : Nat := M / b + if 0 < M % b ∧ M / b % 10 = 0 then 1 else 0

theorem stick_fit {b r P H s R q u : Nat} (hb : 0 < b) (hr : r < b) (hP : P = 2 * H) (hH0 : 0 < H) (hH : H % 10 = 0) (hs : b * s + R = r * P) (hR : R < b) (hu : u = if 0 < R ∧ s % 10 = 0 then 1 else 0) :
    (P < 2 * (s + u) ∨ 2 * (s + u) = P ∧ q % 2 = 1) ↔ (b < 2 * r ∨ 2 * r = b ∧ q % 2 = 1) := by
  have hC : r * P = 2 * r * H := by rw [hP, Nat.mul_left_comm, Nat.mul_assoc]
  rw [hC] at hs
  have h1 : b < 2 * r → b * H + H ≤ 2 * r * H := fun h => by
    have := Nat.mul_le_mul_right H (show b + 1 ≤ 2 * r from h)
    rw [Nat.add_mul, Nat.one_mul] at this
    exact this
  have h2 : 2 * r = b → 2 * r * H = b * H := fun h => by rw [h]
  have h3 : 2 * r < b → 2 * r * H + H ≤ b * H := fun h => by
    have := Nat.mul_le_mul_right H (show 2 * r + 1 ≤ b from h)
    rw [Nat.add_mul, Nat.one_mul] at this
    exact this
  have k1 : s < H → b * s + b ≤ b * H := fun h => by
    have := Nat.mul_le_mul_left b (show s + 1 ≤ H from h)
    rw [Nat.mul_add, Nat.mul_one] at this
    exact this
  have k2 : s = H → b * s = b * H := fun h => by rw [h]
  have k3 : H < s → b * H + b ≤ b * s := fun h => by
    have := Nat.mul_le_mul_left b (show H + 1 ≤ s from h)
    rw [Nat.mul_add, Nat.mul_one] at this
    exact this
  generalize 2 * r * H = C at *
  generalize b * H = A at *
  generalize b * s = S at *
  have hu' : (u = 1 ∧ 0 < R ∧ s % 10 = 0) ∨ (u = 0 ∧ ¬ (0 < R ∧ s % 10 = 0)) := by
    rw [hu]
    split
    · exact .inl ⟨rfl, by assumption⟩
    · exact .inr ⟨rfl, by assumption⟩
  clear hu
  rcases Nat.lt_trichotomy (2 * r) b with hlt | heq | hgt
  · have := h3 hlt
    have hsH : s < H := by
      apply Nat.lt_of_not_le
      intro hle
      rcases Nat.lt_or_ge H s with h | h
      · have := k3 h; omega
      · have := k2 (by omega); omega
    omega
  · have := h2 heq
    have hsH : s = H := by
      rcases Nat.lt_trichotomy s H with h | h | h
      · have := k1 h; omega
      · exact h
      · have := k3 h; omega
    have := k2 hsH
    omega
  · have := h1 hgt
    have hsH : H ≤ s := by
      apply Nat.le_of_not_lt
      intro h
      have := k1 h
      omega
    rcases Nat.lt_or_ge H s with h | h
    · omega
    · have := k2 (by omega)
      omega

theorem stick_even {N b m : Nat} (hb : 0 < b) (hm : 2 ≤ m) : even10 (stick (N * 10 ^ m) b) m = evenQ N b := by
  obtain ⟨k, rfl⟩ : ∃ k, m = k + 2 := ⟨m - 2, by omega⟩
  have hk := t10 k
  obtain ⟨T, hT⟩ : ∃ T, 10 ^ k = T := ⟨_, rfl⟩
  have hP : 10 ^ (k + 2) = 100 * T := by rw [Nat.pow_add, hT, Nat.mul_comm]
  rw [hT] at hk
  unfold even10 evenQ stick
  rw [hP]
  have hr := Nat.mod_lt N hb
  obtain ⟨q, hq⟩ : ∃ q, N / b = q := ⟨_, rfl⟩
  obtain ⟨r, hrr⟩ : ∃ r, N % b = r := ⟨_, rfl⟩
  have hN : N * (100 * T) = b * (q * (100 * T)) + r * (100 * T) := by
    have h := Nat.div_add_mod N b
    rw [hq, hrr] at h
    rw [← Nat.mul_assoc b q (100 * T), ← Nat.add_mul, h]
  rw [hN, Nat.mul_add_div hb, Nat.mul_add_mod, hq, hrr]
  rw [hrr] at hr
  obtain ⟨s, hs⟩ : ∃ s, r * (100 * T) / b = s := ⟨_, rfl⟩
  obtain ⟨R, hR⟩ : ∃ R, r * (100 * T) % b = R := ⟨_, rfl⟩
  have hsR := Nat.div_add_mod (r * (100 * T)) b
  have hRb := Nat.mod_lt (r * (100 * T)) hb
  rw [hs, hR]
  rw [hs, hR] at hsR
  rw [hR] at hRb
  have hsP : s < 100 * T := by
    rw [← hs, Nat.div_lt_iff_lt_mul hb, Nat.mul_comm]
    exact Nat.mul_lt_mul_of_pos_left hr (by omega)
  have hqP : q * (100 * T) = 10 * (10 * (q * T)) := by
    rw [← Nat.mul_assoc q 100, Nat.mul_comm q 100, Nat.mul_assoc 100]
    omega
  have h10 : (q * (100 * T) + s) % 10 = s % 10 := by rw [hqP]; omega
  rw [h10]
  obtain ⟨u, hu⟩ : ∃ u, u = if 0 < R ∧ s % 10 = 0 then 1 else 0 := ⟨_, rfl⟩
  rw [← hu]
  have hsu : s + u < 100 * T := by
    rw [hu]
    split
    · omega
    · omega
  have e1 : (q * (100 * T) + s + u) / (100 * T) = q := by
    rw [Nat.add_assoc, Nat.mul_comm q, Nat.mul_add_div (by omega), Nat.div_eq_of_lt hsu, Nat.add_zero]
  have e2 : (q * (100 * T) + s + u) % (100 * T) = s + u := by
    rw [Nat.add_assoc, Nat.mul_comm q, Nat.mul_add_mod, Nat.mod_eq_of_lt hsu]
  rw [e1, e2]
  have hfit := stick_fit (q := q) hb hr (show 100 * T = 2 * (50 * T) by omega) (by omega) (by omega) hsR hRb hu
  by_cases hc : b < 2 * r ∨ 2 * r = b ∧ q % 2 = 1
  · rw [if_pos hc, if_pos (hfit.2 hc)]
  · rw [if_neg hc, if_neg (fun h => hc (hfit.1 h))]

/-- One step of long division. -/
theorem ldiv_step {M b : Nat} (j : Nat) (hb : 0 < b) : dig (M / b) j = (M / 10 ^ (j + 1) % b * 10 + dig M j) / b ∧ M / 10 ^ j % b = (M / 10 ^ (j + 1) % b * 10 + dig M j) % b := by
  have hd := dig_lt M j
  have hM : M / 10 ^ j = M / 10 ^ (j + 1) * 10 + dig M j := by rw [div_succ]; unfold dig; omega
  have hq := Nat.div_add_mod (M / 10 ^ (j + 1)) b
  have hr := Nat.mod_lt (M / 10 ^ (j + 1)) hb
  have hX : M / b / 10 ^ j = M / 10 ^ j / b := by rw [Nat.div_div_eq_div_mul, Nat.div_div_eq_div_mul, Nat.mul_comm]
  have hE : M / 10 ^ j = b * (10 * (M / 10 ^ (j + 1) / b)) + (M / 10 ^ (j + 1) % b * 10 + dig M j) := by
    rw [hM, Nat.mul_left_comm]
    omega
  generalize dig M j = d at *
  generalize M / 10 ^ (j + 1) % b = r at *
  generalize M / 10 ^ (j + 1) / b = q at *
  constructor
  · unfold dig
    rw [hX, hE, Nat.mul_add_div hb]
    have : (r * 10 + d) / b < 10 := by
      rw [Nat.div_lt_iff_lt_mul hb]
      omega
    generalize (r * 10 + d) / b = g at *
    omega
  · rw [hE, Nat.mul_add_mod]

theorem stick_row {X : Nat} (n : Nat) (h : X % 10 = 0) : (rowA X n).setIfInBounds 0 (.int .i64 1) = rowA (X + 1) n := by
  refine rowA_set (fun _ => by unfold dig; rw [Nat.pow_zero, Nat.div_one]; omega) fun j _ hne => ?_
  obtain ⟨k, rfl⟩ : ∃ k, j = 1 + k := ⟨j - 1, by omega⟩
  unfold dig
  rw [Nat.pow_add, ← Nat.div_div_eq_div_mul, ← Nat.div_div_eq_div_mul, Nat.pow_one, show (X + 1) / 10 = X / 10 by omega]

/-- Does a divisor's long quotient stay below 2 to the power 64 when it is rounded? -/
def okB (P b : Nat) : Bool := Nat.beq b 0 || Nat.blt b (2 * (b * 18446744073709551616 % P))
def okR (P : Nat) : Nat → Nat → Bool
  | 0, b => okB P b
  | d + 1, b => okR P d b && okR P d (b + 2 ^ d)
theorem okR_spec (P : Nat) : ∀ (d b : Nat), okR P d b = true → ∀ x, b ≤ x → x < b + 2 ^ d → okB P x = true
  | 0, b, h, x, h1, h2 => by
    obtain rfl : x = b := by simp at h2; omega
    exact h
  | d + 1, b, h, x, h1, h2 => by
    rw [okR, Bool.and_eq_true] at h
    rw [Nat.pow_succ] at h2
    by_cases hx : x < b + 2 ^ d
    · exact okR_spec P d b h.1 x h1 hx
    · exact okR_spec P d _ h.2 x (by omega) (by omega)
theorem okB_spec {P b : Nat} (h : okB P b = true) (hb : 0 < b) : b < 2 * (b * 18446744073709551616 % P) := by
  unfold okB at h
  rw [Bool.or_eq_true] at h
  rcases h with h | h
  · have := Nat.eq_of_beq_eq_true h; omega
  · exact Nat.le_of_ble_eq_true h
theorem ok8 : okR 100000000 3 0 = true := by decide +kernel
theorem ok9 : okR 1000000000 6 0 = true := by decide +kernel
theorem ok10 : okR 10000000000 10 0 = true := by decide +kernel
theorem ok11 : okR 100000000000 13 0 = true := by decide +kernel
theorem ok12 : okR 1000000000000 16 0 = true := by decide +kernel

theorem no_wrap_at {A k b P d : Nat} (hk : 10 ^ k = P) (h : okR P d 0 = true) (hd : 999999999999 * P < 2 ^ d * 18446744073709551615) (hP : 2 ^ d ≤ P) (hA : A ≤ 999999999999) (hb : 0 < b) (hq : A * 10 ^ k / b < 18446744073709551616) : evenQ (A * 10 ^ k) b < 18446744073709551616 := by
  apply Nat.lt_of_not_le
  intro hle
  rw [hk] at hq hle
  have hN := Nat.div_add_mod (A * P) b
  have hr := Nat.mod_lt (A * P) hb
  have hAP : A * P ≤ 999999999999 * P := Nat.mul_le_mul_right _ hA
  unfold evenQ at hle
  generalize A * P % b = r at *
  generalize hqq : A * P / b = q at *
  have hif : q = 18446744073709551615 ∧ b ≤ 2 * r := by
    split at hle
    · rename_i hc
      omega
    · omega
  obtain ⟨rfl, h2r⟩ := hif
  have hbd : b < 2 ^ d := by omega
  have hok := okB_spec (okR_spec P d 0 h b (Nat.zero_le _) (by omega)) hb
  have hmod : b * 18446744073709551616 % P = b - r := by
    have e : b * 18446744073709551616 = (b - r) + P * A := by rw [Nat.mul_comm P]; omega
    rw [e, Nat.add_mul_mod_self_left, Nat.mod_eq_of_lt (by omega)]
  rw [hmod] at hok
  omega
theorem no_wrap {A k b : Nat} (hA : A ≤ 999999999999) (hk : k ≤ 12) (hb : 0 < b) (hq : A * 10 ^ k / b < 18446744073709551616) : evenQ (A * 10 ^ k) b < 18446744073709551616 := by
  by_cases h8 : k < 8
  · have hp : 10 ^ k ≤ 10 ^ 7 := Nat.pow_le_pow_right (by decide) (by omega)
    have hN : A * 10 ^ k ≤ 999999999999 * 10 ^ 7 := Nat.mul_le_mul hA hp
    have : A * 10 ^ k / b ≤ A * 10 ^ k := Nat.div_le_self _ _
    unfold evenQ
    split <;> omega
  · obtain hk | hk | hk | hk | hk : k = 8 ∨ k = 9 ∨ k = 10 ∨ k = 11 ∨ k = 12 := by omega
    all_goals subst hk
    · exact no_wrap_at rfl ok8 (by decide) (by decide) hA hb hq
    · exact no_wrap_at rfl ok9 (by decide) (by decide) hA hb hq
    · exact no_wrap_at rfl ok10 (by decide) (by decide) hA hb hq
    · exact no_wrap_at rfl ok11 (by decide) (by decide) hA hb hq
    · exact no_wrap_at rfl ok12 (by decide) (by decide) hA hb hq

/-- A number too great for dec, whatever its zeros. -/
theorem dec_huge {Y : Int} (h : 1000000000000000000 ≤ Y) (b : Bool) : decS 6 Y b = ⟨0, 0, 3⟩ := by
  obtain ⟨v1, v2, v3⟩ := short_val 6 Y (by omega)
  have hp : p10 (6 - (short 6 Y).2.toNat) ≤ 1000000 := p10_6 ▸ p10_mono (by omega)
  have hp0 := p10_pos (6 - (short 6 Y).2.toNat)
  unfold decS
  rw [if_pos]
  rw [big_def]
  apply Int.lt_of_not_ge
  intro hle
  have h1 : (short 6 Y).1 * p10 (6 - (short 6 Y).2.toNat) ≤ 999999999999 * p10 (6 - (short 6 Y).2.toNat) := Int.mul_le_mul_of_nonneg_right hle (by omega)
  omega

/-- Div. -/
def divS (n s n2 s2 : Int) : Res :=
  if soundS n s && soundS n2 s2 then
    if n2 = 0 then ⟨0, 0, 4⟩
    else decS 6 (evenQ ((mag n).toNat * 10 ^ (6 - s + s2).toNat) (mag n2).toNat) (decide (n < 0) != decide (n2 < 0))
  else ⟨0, 0, 2⟩
end Go.Proofs.YteljkkfnnmikkaaDoor
