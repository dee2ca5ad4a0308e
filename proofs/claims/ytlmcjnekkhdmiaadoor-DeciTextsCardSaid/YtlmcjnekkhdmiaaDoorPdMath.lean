/- Plain laws of numerals: digits with leading noughts. No program in sight. -/
import Derived.Test.YtlmcjnekkhdmiaaDoorParseA
import Derived.Lib.ItoaNum
import Derived.Lib.Atoi
import Derived.Lib.SlTrimSet
set_option linter.unusedVariables false
set_option linter.unusedSimpArgs false
namespace Go.Proofs.YtlmcjnekkhdmiaaDoor
open Go.Lib

/-- n in so many digits. -/
def pd : Nat → Nat → List UInt8
  | 0, _ => []
  | k + 1, n => pd k (n / 10) ++ [UInt8.ofNat (48 + n % 10)]
theorem pd_length : ∀ (k n : Nat), (pd k n).length = k
  | 0, _ => rfl
  | k + 1, n => by simp [pd, pd_length k]
theorem pd_zero : ∀ k : Nat, pd k 0 = List.replicate k 48
  | 0 => rfl
  | k + 1 => by
    rw [pd, Nat.zero_div, pd_zero k, Nat.zero_mod, List.replicate_succ']
    rfl
theorem pad_pd : ∀ (k n : Nat), 0 < k → n < 10 ^ k → nDigits n ≤ k ∧ List.replicate (k - nDigits n) 48 ++ decDigits n = pd k n
  | 0, _, h, _ => by omega
  | k + 1, n, _, hn => by
    by_cases h : n < 10
    · rw [nDigits_small h, decDigits_one h, Nat.add_sub_cancel, pd, Nat.div_eq_of_lt h, pd_zero, Nat.mod_eq_of_lt h]
      exact ⟨by omega, rfl⟩
    · have hk : 0 < k := by
        apply Nat.pos_of_ne_zero
        rintro rfl
        simp at hn
        omega
      have hn2 : n / 10 < 10 ^ k := by rw [Nat.pow_succ] at hn; omega
      obtain ⟨h1, h2⟩ := pad_pd k (n / 10) hk hn2
      rw [nDigits_big h, decDigits, dif_neg h, pd, ← h2, ← List.append_assoc, Nat.add_sub_add_right]
      exact ⟨by omega, rfl⟩

/-- A row of digits. -/
def allDig (l : List UInt8) : Bool := l.all fun b => decide (48 ≤ b.toNat ∧ b.toNat ≤ 57)
theorem dig_ofNat {d : Nat} (h : d < 10) : (UInt8.ofNat (48 + d)).toNat = 48 + d := by simp [UInt8.toNat_ofNat']; omega
theorem allDig_pd : ∀ (k n : Nat), allDig (pd k n) = true
  | 0, _ => rfl
  | k + 1, n => by
    have h := allDig_pd k (n / 10)
    unfold allDig at h ⊢
    rw [pd, List.all_append, h]
    have := dig_ofNat (d := n % 10) (by omega)
    simp [this]
    omega
theorem allDig_no45 {l : List UInt8} (h : allDig l = true) : ∀ b ∈ l, b ≠ 45 := by
  intro b hb e
  subst e
  have := List.all_eq_true.1 h _ hb
  revert this
  decide
theorem decFrom_append : ∀ (l r : List UInt8) (a n : Nat), decFrom a l = some n → decFrom a (l ++ r) = decFrom n r
  | [], r, a, n, h => by cases h; rfl
  | b :: l, r, a, n, h => by
    rw [List.cons_append, decFrom]
    rw [decFrom] at h
    cases hd : digitVal b with
    | none => rw [hd] at h; cases h
    | some d => rw [hd] at h; exact decFrom_append l r _ n h
theorem decFrom_pd : ∀ (k n : Nat), n < 10 ^ k → decFrom 0 (pd k n) = some n
  | 0, n, h => by
    simp at h
    subst h
    rfl
  | k + 1, n, h => by
    rw [pd, decFrom_append _ _ _ _ (decFrom_pd k (n / 10) (by rw [Nat.pow_succ] at h; omega)), decFrom, digitVal, if_pos (by rw [dig_ofNat (by omega)]; omega), dig_ofNat (by omega)]
    simp only [decFrom]
    congr 1
    omega
theorem atoi_digits {l : List UInt8} {n : Nat} (hne : l ≠ []) (hd : allDig l = true) (h : decFrom 0 l = some n) : atoi l = some (n : Int) := by
  cases l with
  | nil => exact absurd rfl hne
  | cons b r =>
    have hb := List.all_eq_true.1 hd b (by simp)
    simp only [decide_eq_true_eq] at hb
    have h1 : (b == 45) = false := by
      rw [beq_eq_false_iff_ne]; rintro rfl; revert hb; decide
    have h2 : (b == 43) = false := by
      rw [beq_eq_false_iff_ne]; rintro rfl; revert hb; decide
    rw [atoi, h1, h2]
    simp only [Bool.false_eq_true, if_false]
    unfold decNat
    simp [h]

/-- What Trim leaves of digits alone. -/
theorem in_cutset (b : UInt8) : cutset.data.toList.contains b = decide (48 ≤ b.toNat ∧ b.toNat ≤ 57) := by
  have h : ∀ n : Fin 256, cutset.data.toList.contains (UInt8.ofNat n.val) = decide (48 ≤ (UInt8.ofNat n.val).toNat ∧ (UInt8.ofNat n.val).toNat ≤ 57) := by decide +kernel
  have := h ⟨b.toNat, b.toNat_lt⟩
  simpa using this
theorem dropWhile_nil {p : UInt8 → Bool} : ∀ (l : List UInt8), (l.dropWhile p).isEmpty = l.all p
  | [] => rfl
  | b :: l => by
    rw [List.dropWhile_cons, List.all_cons]
    cases p b with
    | true => simpa using dropWhile_nil l
    | false => simp
theorem dropWhile_idem {p : UInt8 → Bool} (l : List UInt8) (h : l.all p = true) : l.dropWhile p = [] := by
  have := dropWhile_nil (p := p) l
  rw [h] at this
  exact List.isEmpty_iff.1 this
theorem trim_digits (l : List UInt8) : (trimS l cutset.data.toList).isEmpty = allDig l := by
  have hp : (fun b => cutset.data.toList.contains b) = fun b : UInt8 => decide (48 ≤ b.toNat ∧ b.toNat ≤ 57) := funext in_cutset
  unfold trimS trimLeftS trimRightS allDig
  rw [hp, dropWhile_nil]
  by_cases h : (l.all fun b => decide (48 ≤ b.toNat ∧ b.toNat ≤ 57)) = true
  · rw [h, dropWhile_idem l.reverse (by rw [List.all_reverse]; exact h)]
    rfl
  · rw [Bool.eq_false_iff.2 h, Bool.eq_false_iff]
    intro h2
    rw [List.all_reverse] at h2
    apply h
    have h3 : (l.reverse.dropWhile fun b => decide (48 ≤ b.toNat ∧ b.toNat ≤ 57)) = [] := by
      cases hc : (l.reverse.dropWhile fun b => decide (48 ≤ b.toNat ∧ b.toNat ≤ 57)) with
      | nil => rfl
      | cons a t =>
        have h4 := List.head?_dropWhile_not (fun b : UInt8 => decide (48 ≤ b.toNat ∧ b.toNat ≤ 57)) l.reverse
        rw [hc] at h4 h2
        simp only [List.head?_cons] at h4
        rw [List.all_cons] at h2
        simp only [Bool.and_eq_true] at h2
        rw [h2.1] at h4
        simp at h4
    have h5 := dropWhile_nil (p := fun b : UInt8 => decide (48 ≤ b.toNat ∧ b.toNat ≤ 57)) l.reverse
    rw [h3, List.all_reverse] at h5
    exact h5.symm

theorem pd_cons : ∀ (k n : Nat), pd (k + 1) n = UInt8.ofNat (48 + n / 10 ^ k % 10) :: pd k n
  | 0, n => by simp [pd]
  | k + 1, n => by
    rw [pd, pd_cons k (n / 10), List.cons_append, Nat.div_div_eq_div_mul, ← Nat.pow_succ']
    rfl

theorem pd_add (a b n : Nat) : pd (a + b) n = pd a (n / 10 ^ b) ++ pd b n := by
  induction b generalizing n with
  | zero => simp [pd]
  | succ b ih =>
    rw [← Nat.add_assoc, pd, ih (n / 10), pd, ← List.append_assoc, Nat.div_div_eq_div_mul, ← Nat.pow_succ']
theorem dec_pd (n : Nat) : decDigits n = pd (nDigits n) n := by
  have h := (pad_pd (nDigits n) n (nDigits_pos n) (lt_pow_nDigits n)).2
  rw [Nat.sub_self] at h
  exact h
theorem nDigits_le {n k : Nat} (hk : 0 < k) (h : n < 10 ^ k) : nDigits n ≤ k := (pad_pd k n hk h).1
/-- A number's text without its sign. -/
def textU (N sc : Nat) : List UInt8 := if sc = 0 then decDigits N else decDigits (N / 10 ^ sc) ++ 46 :: pd sc N
def textS (minus : Bool) (N sc : Nat) : List UInt8 := if minus then 45 :: textU N sc else textU N sc
theorem nDigits_div {N sc : Nat} : nDigits (N / 10 ^ sc) + sc = max (nDigits N) (sc + 1) := by
  induction sc generalizing N with
  | zero => simp; have := nDigits_pos N; omega
  | succ k ih =>
    by_cases h : N < 10
    · have : N / 10 ^ (k + 1) = 0 := Nat.div_eq_of_lt (Nat.lt_of_lt_of_le h (by rw [Nat.pow_succ]; have : 0 < 10 ^ k := Nat.pow_pos (by decide); omega))
      rw [this, nDigits_small h, nDigits_small (by decide)]
      omega
    · have e : N / 10 ^ (k + 1) = N / 10 / 10 ^ k := by rw [Nat.div_div_eq_div_mul, ← Nat.pow_succ']
      rw [e, nDigits_big h]
      have := ih (N := N / 10)
      omega
/-- How the program cuts the digits at the point. -/
theorem cut_text {N sc : Nat} (hs : 0 < sc) : ((List.replicate (sc + 1 - nDigits N) 48 ++ decDigits N).take (max (nDigits N) (sc + 1) - sc) ++ [46]) ++ (List.replicate (sc + 1 - nDigits N) 48 ++ decDigits N).drop (max (nDigits N) (sc + 1) - sc) = textU N sc := by
  have hM : N < 10 ^ max (nDigits N) (sc + 1) := Nat.lt_of_lt_of_le (lt_pow_nDigits N) (Nat.pow_le_pow_right (by decide) (Nat.le_max_left _ _))
  have h1 := (pad_pd (max (nDigits N) (sc + 1)) N (by omega) hM).2
  have e1 : max (nDigits N) (sc + 1) - nDigits N = sc + 1 - nDigits N := by omega
  rw [e1] at h1
  have h2 := nDigits_div (N := N) (sc := sc)
  have e2 : max (nDigits N) (sc + 1) - sc = nDigits (N / 10 ^ sc) := by omega
  rw [h1, e2, ← h2, pd_add]
  rw [List.take_append_of_le_length (by rw [pd_length]; exact Nat.le_refl _), List.take_of_length_le (by rw [pd_length]; exact Nat.le_refl _), List.drop_append_of_le_length (by rw [pd_length]; exact Nat.le_refl _), List.drop_of_length_le (by rw [pd_length]; exact Nat.le_refl _)]
  unfold textU
  rw [if_neg (by omega), ← dec_pd]
  simp
end Go.Proofs.YtlmcjnekkhdmiaaDoor
