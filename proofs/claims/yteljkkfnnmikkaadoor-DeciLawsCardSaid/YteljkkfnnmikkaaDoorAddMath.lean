/- Plain laws of sums: what a sum is in units, and that it is in its shortest form. -/
import Derived.Test.YteljkkfnnmikkaaDoorDeciD
namespace Go.Proofs.YteljkkfnnmikkaaDoor

theorem short_idem : ∀ (k : Nat) (n : Int), 0 ≤ n → short (short k n).2.toNat (short k n).1 = short k n
  | 0, n, _ => rfl
  | k + 1, n, h => by
    by_cases hd : n % 10 = 0
    · rw [short_go hd]
      exact short_idem k (n / 10) (by omega)
    · rw [short_stop (.inr hd)]
      show short (((k + 1 : Nat) : Int)).toNat n = _
      rw [Int.toNat_natCast, short_stop (.inr hd)]
theorem short_val : ∀ (k : Nat) (n : Int), 0 ≤ n → (short k n).1 * p10 (k - (short k n).2.toNat) = n ∧ 0 ≤ (short k n).2 ∧ (short k n).2 ≤ k
  | 0, n, _ => by simp [short, p10_zero]
  | k + 1, n, h => by
    by_cases hd : n % 10 = 0
    · rw [short_go hd]
      obtain ⟨h1, h2, h3⟩ := short_val k (n / 10) (by omega)
      refine ⟨?_, h2, by omega⟩
      rw [show k + 1 - (short k (n / 10)).2.toNat = (k - (short k (n / 10)).2.toNat) + 1 by omega, p10_succ, ← Int.mul_assoc, h1]
      omega
    · rw [short_stop (.inr hd)]
      refine ⟨?_, by simp; omega, by simp⟩
      show n * p10 (k + 1 - (((k + 1 : Nat) : Int)).toNat) = n
      rw [Int.toNat_natCast, Nat.sub_self, p10_zero, Int.mul_one]
theorem short_mul : ∀ (j k : Nat) (n : Int), short (k + j) (n * p10 j) = short k n
  | 0, k, n => by rw [p10_zero, Int.mul_one, Nat.add_zero]
  | j + 1, k, n => by
    rw [← Nat.add_assoc, p10_succ, ← Int.mul_assoc, short_go (by omega), Int.mul_ediv_cancel _ (by decide)]
    exact short_mul j k n

/-- A number that came out of dec without an error: sound, and of so many units. -/
theorem dec_sound {X : Int} {b : Bool} (hX : 0 ≤ X) (hb : b = true → 0 < X) (h : (decS 6 X b).e = 0) :
    soundS (decS 6 X b).n (decS 6 X b).s = true ∧ unitsS (decS 6 X b).n (decS 6 X b).s = (if b then -X else X) := by
  obtain ⟨v1, v2, v3⟩ := short_val 6 X hX
  have hid := short_idem 6 X hX
  have hbd := short_bd 6 X hX
  by_cases hbig : big < (short 6 X).1
  · unfold decS at h
    rw [if_pos hbig] at h
    cases h
  · have hd : decS 6 X b = ⟨if b then -(short 6 X).1 else (short 6 X).1, (short 6 X).2, 0⟩ := by unfold decS; rw [if_neg hbig]
    rw [hd]
    generalize hq : short 6 X = q at *
    obtain ⟨m, k⟩ := q
    simp only at v1 v2 v3 hid hbd hbig ⊢
    rw [big_def] at hbig
    have hpp := p10_pos (6 - k.toNat)
    have hm0 : b = true → 0 < m := by
      intro hbt
      have := hb hbt
      apply Int.lt_of_not_ge
      intro hle
      have h0 : m = 0 := by omega
      rw [h0, Int.zero_mul] at v1
      omega
    have hN : mag (if b = true then -m else m) = m := by
      unfold mag
      cases b with
      | true => have := hm0 rfl; simp; omega
      | false => simp; omega
    have hneg : decide ((if b = true then -m else m) < 0) = b := by
      cases b with
      | true => have := hm0 rfl; simp; omega
      | false => simp; omega
    constructor
    · have hmk : makeS (if b = true then -m else m) k = ⟨if b = true then -m else m, k, 0⟩ := by
        have hr : 0 ≤ k ∧ k ≤ 6 ∧ -999999999999 ≤ (if b = true then -m else m) ∧ (if b = true then -m else m) ≤ 999999999999 := by
          refine ⟨v2, v3, ?_, ?_⟩ <;> split <;> omega
        rw [make_ok hr, hN, hneg]
        unfold decS
        rw [hid, big_def, if_neg hbig]
      unfold soundS
      rw [hmk]
      simp
    · unfold unitsS
      rw [show (6 - k).toNat = 6 - k.toNat by omega]
      cases b with
      | true => simp only [if_true]; rw [Int.neg_mul, v1]
      | false => simp only [Bool.false_eq_true, if_false]; exact v1
theorem mag_mul {n p : Int} (h : 0 < p) : mag (n * p) = mag n * p := by
  unfold mag
  by_cases hn : n < 0
  · rw [if_pos hn, if_pos (Int.mul_neg_of_neg_of_pos hn h), Int.neg_mul]
  · rw [if_neg hn, if_neg (by have := Int.mul_nonneg (by omega : 0 ≤ n) (Int.le_of_lt h); omega)]
theorem neg_mul_iff {n p : Int} (h : 0 < p) : decide (n * p < 0) = decide (n < 0) := by
  rw [decide_eq_decide]
  constructor
  · intro hl
    apply Int.lt_of_not_ge
    intro hge
    have := Int.mul_nonneg hge (Int.le_of_lt h)
    omega
  · intro hl; exact Int.mul_neg_of_neg_of_pos hl h
/-- A sound number comes back out of its units. -/
theorem dec_units {n s : Int} (h : soundS n s = true) : decS 6 (mag (unitsS n s)) (decide (unitsS n s < 0)) = ⟨n, s, 0⟩ := by
  obtain ⟨b1, b2, b3, b4, _⟩ := sound_bd h
  have hp := p10_pos (6 - s).toNat
  have hm := make_ok (n := n) (s := s) ⟨b1, b2, b3, b4⟩
  have h' := h
  unfold soundS at h'
  rw [hm] at h'
  simp only [Bool.and_eq_true, beq_iff_eq] at h'
  have e : decS 6 (mag (unitsS n s)) (decide (unitsS n s < 0)) = decS s.toNat (mag n) (decide (n < 0)) := by
    unfold unitsS
    rw [mag_mul hp, neg_mul_iff hp]
    unfold decS
    have : short 6 (mag n * p10 (6 - s).toNat) = short s.toNat (mag n) := by
      have := short_mul (6 - s).toNat s.toNat (mag n)
      rw [show s.toNat + (6 - s).toNat = 6 by omega] at this
      exact this
    rw [this]
  rw [e]
  cases hd : decS s.toNat (mag n) (decide (n < 0)) with
  | mk a b c =>
    rw [hd] at h'
    simp only at h'
    rw [h'.1, h'.2.1, h'.2.2]
theorem sound_neg {n s : Int} (h : soundS n s = true) : soundS (-n) s = true := by
  rw [sound_iff] at h ⊢
  have h1 := of_decide_eq_true h
  apply decide_eq_true
  rw [big_def] at h1 ⊢
  omega
theorem units_neg (n s : Int) : unitsS (-n) s = -unitsS n s := by unfold unitsS; rw [Int.neg_mul]

/-- A sum less one of two is the other. -/
theorem add_back {n s n2 s2 : Int} (h : (addS n s n2 s2).e = 0) (h1 : soundS n s = true) : soundS n2 s2 = true ∧ addS (addS n s n2 s2).n (addS n s n2 s2).s (-n2) s2 = ⟨n, s, 0⟩ := by
  by_cases h2 : soundS n2 s2 = true
  · refine ⟨h2, ?_⟩
    have hA : addS n s n2 s2 = decS 6 (mag (unitsS n s + unitsS n2 s2)) (decide (unitsS n s + unitsS n2 s2 < 0)) := by unfold addS; rw [h1, h2]; rfl
    rw [hA] at h ⊢
    obtain ⟨q1, q2⟩ := dec_sound (mag_nn _) (by intro hb; have := of_decide_eq_true hb; unfold mag; split <;> omega) h
    have hU : unitsS (decS 6 (mag (unitsS n s + unitsS n2 s2)) (decide (unitsS n s + unitsS n2 s2 < 0))).n (decS 6 (mag (unitsS n s + unitsS n2 s2)) (decide (unitsS n s + unitsS n2 s2 < 0))).s = unitsS n s + unitsS n2 s2 := by
      rw [q2]
      unfold mag
      by_cases hneg : unitsS n s + unitsS n2 s2 < 0
      · rw [if_pos (decide_eq_true hneg), if_pos hneg]; omega
      · rw [if_neg (by simpa using hneg), if_neg hneg]
    unfold addS
    rw [q1, sound_neg h2, hU, units_neg]
    simp only [Bool.and_self, if_true]
    rw [show unitsS n s + unitsS n2 s2 + -unitsS n2 s2 = unitsS n s by omega]
    exact dec_units h1
  · exfalso
    unfold addS at h
    rw [if_neg (by rw [h1]; simpa using h2)] at h
    cases h
end Go.Proofs.YteljkkfnnmikkaaDoor
