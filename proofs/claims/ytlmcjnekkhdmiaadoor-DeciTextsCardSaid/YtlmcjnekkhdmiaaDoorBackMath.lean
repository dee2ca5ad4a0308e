/- Plain laws: what is written is read as it was; the units of a sum. -/
import Derived.Test.YtlmcjnekkhdmiaaDoorParseG
import Derived.Test.YtlmcjnekkhdmiaaDoorTextG
import Derived.Test.YtlmcjnekkhdmiaaDoorDeciD
set_option linter.unusedVariables false
set_option linter.unusedSimpArgs false
namespace Go.Proofs.YtlmcjnekkhdmiaaDoor
open Go.RowKit
open Go.Lib hiding intOf

theorem indexc_at (c : UInt8) : ∀ (a r : List UInt8), (∀ b ∈ a, b ≠ c) → index (a ++ c :: r) [c] = a.length
  | [], r, _ => by unfold index; simp
  | b :: a, r, h => by
    have hb : ¬ c = b := fun e => h b (by simp) e.symm
    have hp : List.isPrefixOf [c] (b :: (a ++ c :: r)) = false := by simp [List.isPrefixOf, hb]
    have hm : ((a.length : Int) == -1) = false := by rw [beq_eq_false_iff_ne]; omega
    rw [List.cons_append, index, hp, indexc_at c a r fun x hx => h x (by simp [hx]), hm]
    simp
theorem indexc_no (c : UInt8) : ∀ (a : List UInt8), (∀ b ∈ a, b ≠ c) → index a [c] = -1
  | [], _ => rfl
  | b :: a, h => by
    have hb : ¬ c = b := fun e => h b (by simp) e.symm
    have hp : List.isPrefixOf [c] (b :: a) = false := by simp [List.isPrefixOf, hb]
    rw [index, hp, indexc_no c a fun x hx => h x (by simp [hx])]
    simp
theorem allDig_no {c : UInt8} (hc : ¬ (48 ≤ c.toNat ∧ c.toNat ≤ 57)) {l : List UInt8} (h : allDig l = true) : ∀ b ∈ l, b ≠ c := by
  intro b hb e
  subst e
  exact hc (of_decide_eq_true (List.all_eq_true.1 h _ hb))
theorem cut_at {a r : List UInt8} (h : ∀ b ∈ a, b ≠ 46) : Lib.cut (a ++ 46 :: r) [46] = (a, r, true) := by
  unfold Lib.cut
  rw [indexc_at 46 a r h, if_pos (by omega)]
  simp [List.drop_append]
theorem cut_no {a : List UInt8} (h : ∀ b ∈ a, b ≠ 46) : Lib.cut a [46] = (a, [], false) := by
  unfold Lib.cut
  rw [indexc_no 46 a h, if_neg (by omega)]
theorem prefix_hit (l : List UInt8) : Lib.hasPrefix (45 :: l) [45] = true ∧ Lib.trimPrefix (45 :: l) [45] = l := by
  have h : Lib.hasPrefix (45 :: l) [45] = true := by simp [Lib.hasPrefix]
  exact ⟨h, by unfold Lib.trimPrefix; rw [h]; rfl⟩
theorem prefix_miss {b : UInt8} {l : List UInt8} (hb : b ≠ 45) : Lib.hasPrefix (b :: l) [45] = false ∧ Lib.trimPrefix (b :: l) [45] = b :: l := by
  have hb' : ¬ (45 : UInt8) = b := fun e => hb e.symm
  have h : Lib.hasPrefix (b :: l) [45] = false := by simp [Lib.hasPrefix, List.isPrefixOf, hb']
  exact ⟨h, by unfold Lib.trimPrefix; rw [h]; rfl⟩

theorem decFrom_le : ∀ (l : List UInt8) (a n : Nat), decFrom a l = some n → a ≤ n
  | [], a, n, h => by cases h; exact Nat.le_refl _
  | b :: l, a, n, h => by
    rw [decFrom] at h
    cases hd : digitVal b with
    | none => rw [hd] at h; cases h
    | some d =>
      rw [hd] at h
      have := decFrom_le l _ n h
      omega
theorem uintM_of : ∀ (l : List UInt8) (a n : Nat), allDig l = true → decFrom a l = some n → n < 10000000000000000000 → parseUintM (2 ^ 64 - 1) a l = .ok n
  | [], a, n, _, h, _ => by cases h; rfl
  | b :: l, a, n, hd, h, hn => by
    unfold allDig at hd
    rw [List.all_cons, Bool.and_eq_true] at hd
    have hb := of_decide_eq_true hd.1
    rw [decFrom, digitVal, if_pos hb] at h
    have hle := decFrom_le l _ n h
    have h64 : (2 : Nat) ^ 64 - 1 = 18446744073709551615 := by decide
    rw [parseUintM, if_pos hb, if_neg (by omega), if_neg (by rw [h64]; omega)]
    exact uintM_of l _ n hd.2 h hn
theorem uintB_pd {k n : Nat} (hk : 0 < k) (h : n < 10 ^ k) (hn : n < 10000000000000000000) : Lib.parseUintB 64 (pd k n) = .ok n := by
  unfold Lib.parseUintB
  rw [if_neg (by intro e; have := congrArg List.length e; rw [pd_length] at this; simp at this; omega)]
  exact uintM_of _ 0 n (allDig_pd k n) (decFrom_pd k n h) hn

theorem low_nDigits (n : Nat) : n < 10 ∨ 10 ^ (nDigits n - 1) ≤ n := by
  induction n using Nat.strongRecOn with
  | _ n ih =>
    by_cases h : n < 10
    · exact .inl h
    · refine .inr ?_
      rw [nDigits_big h, Nat.add_sub_cancel]
      have hp := nDigits_pos (n / 10)
      rcases ih (n / 10) (by omega) with h2 | h2
      · rw [nDigits_small h2]; omega
      · obtain ⟨k, hk⟩ : ∃ k, nDigits (n / 10) = k + 1 := ⟨nDigits (n / 10) - 1, by omega⟩
        rw [hk] at h2 ⊢
        rw [Nat.add_sub_cancel] at h2
        rw [Nat.pow_succ]
        omega
/-- No leading nought. -/
theorem head_dec {n : Nat} (h : 1 < nDigits n) : ∃ d l, decDigits n = UInt8.ofNat (48 + d) :: l ∧ 1 ≤ d ∧ d ≤ 9 := by
  obtain ⟨k, hk⟩ : ∃ k, nDigits n = k + 1 := ⟨nDigits n - 1, by omega⟩
  have h1 := low_nDigits n
  have h2 := lt_pow_nDigits n
  rw [hk] at h1 h2
  rw [Nat.add_sub_cancel] at h1
  have h3 : 10 ^ k ≤ n := by
    rcases h1 with h1 | h1
    · rw [nDigits_small h1] at h; omega
    · exact h1
  have hp : 0 < 10 ^ k := Nat.pow_pos (by decide)
  have h4 : 1 ≤ n / 10 ^ k := (Nat.le_div_iff_mul_le hp).2 (by omega)
  have h5 : n / 10 ^ k < 10 := (Nat.div_lt_iff_lt_mul hp).2 (by rw [Nat.pow_succ] at h2; omega)
  refine ⟨n / 10 ^ k % 10, pd k n, ?_, by omega, by omega⟩
  rw [dec_pd, hk, pd_cons]
theorem head_any (n : Nat) : ∃ d l, decDigits n = UInt8.ofNat (48 + d) :: l ∧ d ≤ 9 := by
  obtain ⟨k, hk⟩ : ∃ k, nDigits n = k + 1 := ⟨nDigits n - 1, by have := nDigits_pos n; omega⟩
  exact ⟨n / 10 ^ k % 10, pd k n, by rw [dec_pd, hk, pd_cons], by omega⟩
theorem digB_of {s : ByteArray} (hne : s.data.toList ≠ []) (h : allDig s.data.toList = true) : digB s = true := by
  unfold digB
  rw [trim_digits, h, Lib.toList_data]
  cases hc : s.data.toList with
  | nil => exact absurd hc hne
  | cons a t => rfl

/-- How a written number is cut up. -/
theorem cut_of {minus : Bool} {N sc : Nat} (hN : N < 1000000000000) (hs : sc ≤ 6) (hz : sc = 0 ∨ ¬ N % 10 = 0) (T : ByteArray) (hT : ⟨(textS minus N sc).toArray⟩ = T) :
    ∃ r wh pa pt : ByteArray, ∃ dot : Bool, CutUp T r wh pa pt minus dot ∧ digB wh = true ∧ (dot = false ∨ dot = true ∧ digB pa = true) ∧ wh.size ≤ 12 ∧ pt.size = sc ∧ Lib.parseUintB 64 (wh ++ pt).data.toList = .ok N ∧ (¬ 1 < wh.size ∨ ∃ h : 1 < wh.size, ¬ (wh[0]'(by omega)).toNat = 48) := by
  subst hT
  have hW : N / 10 ^ sc < 10 ^ 12 := Nat.lt_of_le_of_lt (Nat.div_le_self _ _) (by omega)
  have hWd := nDigits_le (by decide) hW
  have hdw : allDig (decDigits (N / 10 ^ sc)) = true := by rw [dec_pd]; exact allDig_pd _ _
  have hne : decDigits (N / 10 ^ sc) ≠ [] := by
    intro e
    have := congrArg List.length e
    rw [decDigits_length] at this
    have h2 := nDigits_pos (N / 10 ^ sc)
    simp at this
    omega
  have h46 : ∀ b ∈ decDigits (N / 10 ^ sc), b ≠ 46 := allDig_no (by decide) hdw
  have hpa : (if sc = 0 then [] else pd sc N).length = sc := by
    split
    · rename_i h; rw [h]; rfl
    · exact pd_length _ _
  have hcut : Lib.cut (textU N sc) [46] = (decDigits (N / 10 ^ sc), (if sc = 0 then [] else pd sc N), decide (¬ sc = 0)) := by
    unfold textU
    by_cases h0 : sc = 0
    · subst h0
      simp only [if_true, Nat.pow_zero, Nat.div_one] at h46 ⊢
      rw [cut_no h46]
      rfl
    · rw [if_neg h0, if_neg h0, cut_at h46, decide_eq_true h0]
  have htrim : Lib.trimRightB (if sc = 0 then [] else pd sc N) 48 = (if sc = 0 then [] else pd sc N) := by
    by_cases h0 : sc = 0
    · rw [if_pos h0]; rfl
    · rw [if_neg h0]
      obtain ⟨k, hk⟩ : ∃ k, sc = k + 1 := ⟨sc - 1, by omega⟩
      have hlast : ¬ UInt8.ofNat (48 + N % 10) = 48 := by
        intro e
        have := congrArg UInt8.toNat e
        rw [dig_ofNat (by omega)] at this
        have h2 : (48 : UInt8).toNat = 48 := rfl
        omega
      unfold Lib.trimRightB
      rw [hk, pd, List.reverse_append, List.reverse_singleton, List.singleton_append, List.dropWhile_cons]
      have : (UInt8.ofNat (48 + N % 10) == 48) = false := by rw [beq_eq_false_iff_ne]; exact hlast
      rw [this]
      simp
  have hpre : Lib.hasPrefix (textS minus N sc) [45] = minus ∧ Lib.trimPrefix (textS minus N sc) [45] = textU N sc := by
    unfold textS
    cases minus with
    | true => exact prefix_hit _
    | false =>
      obtain ⟨d, l, hd, hd9⟩ := head_any (N / 10 ^ sc)
      have hb : UInt8.ofNat (48 + d) ≠ 45 := by
        intro e
        have := congrArg UInt8.toNat e
        rw [dig_ofNat (by omega)] at this
        have h2 : (45 : UInt8).toNat = 45 := rfl
        omega
      have hu : ∃ l', textU N sc = UInt8.ofNat (48 + d) :: l' := by
        unfold textU
        by_cases h0 : sc = 0
        · subst h0
          simp only [Nat.pow_zero, Nat.div_one] at hd
          exact ⟨l, by rw [if_pos rfl, hd]⟩
        · exact ⟨_, by rw [if_neg h0, hd, List.cons_append]⟩
      obtain ⟨l', hl'⟩ := hu
      simp only [Bool.false_eq_true, if_false]
      rw [hl']
      exact prefix_miss hb
  have hlenU : (textU N sc).length ≤ 20 := by
    unfold textU
    split
    · rename_i h0; subst h0; simp only [Nat.pow_zero, Nat.div_one] at hWd; rw [decDigits_length]; omega
    · rw [List.length_append, decDigits_length, List.length_cons, pd_length]; omega
  refine ⟨⟨(textU N sc).toArray⟩, ⟨(decDigits (N / 10 ^ sc)).toArray⟩, ⟨(if sc = 0 then [] else pd sc N).toArray⟩, ⟨(if sc = 0 then [] else pd sc N).toArray⟩, decide (¬ sc = 0), ⟨hpre.2, hpre.1, hcut, htrim, ?_, ?_, ?_, ?_⟩, digB_of hne hdw, ?_, ?_, ?_, ?_, ?_⟩
  · show (textU N sc).toArray.size < _; rw [List.size_toArray]; omega
  · show (decDigits (N / 10 ^ sc)).toArray.size ≤ _; rw [List.size_toArray, decDigits_length]; omega
  · show (if sc = 0 then [] else pd sc N).toArray.size ≤ _; rw [List.size_toArray, hpa]; omega
  · show (if sc = 0 then [] else pd sc N).toArray.size ≤ _; rw [List.size_toArray, hpa]; omega
  · by_cases h0 : sc = 0
    · exact .inl (decide_eq_false (by simpa using h0))
    · refine .inr ⟨decide_eq_true h0, digB_of ?_ ?_⟩
      · show (if sc = 0 then [] else pd sc N) ≠ []
        rw [if_neg h0]
        intro e
        have := congrArg List.length e
        rw [pd_length] at this
        simp at this
        omega
      · show allDig (if sc = 0 then [] else pd sc N) = true
        rw [if_neg h0]
        exact allDig_pd _ _
  · show (decDigits (N / 10 ^ sc)).toArray.size ≤ 12; rw [List.size_toArray, decDigits_length]; exact hWd
  · show (if sc = 0 then [] else pd sc N).toArray.size = sc; rw [List.size_toArray, hpa]
  · have e : ((⟨(decDigits (N / 10 ^ sc)).toArray⟩ : ByteArray) ++ ⟨(if sc = 0 then [] else pd sc N).toArray⟩).data.toList = pd (nDigits (N / 10 ^ sc) + sc) N := by
      rw [ByteArray.data_append, Array.toList_append, pd_add, ← dec_pd]
      congr 1
      show (if sc = 0 then [] else pd sc N) = pd sc N
      split
      · rename_i h0; rw [h0]; rfl
      · rfl
    rw [e]
    refine uintB_pd (by have := nDigits_pos (N / 10 ^ sc); omega) ?_ (by omega)
    have h2 := nDigits_div (N := N) (sc := sc)
    rw [h2]
    exact Nat.lt_of_lt_of_le (lt_pow_nDigits N) (Nat.pow_le_pow_right (by decide) (Nat.le_max_left _ _))
  · by_cases h1 : 1 < nDigits (N / 10 ^ sc)
    · right
      have hsz : 1 < (⟨(decDigits (N / 10 ^ sc)).toArray⟩ : ByteArray).size := by
        show 1 < (decDigits (N / 10 ^ sc)).toArray.size; rw [List.size_toArray, decDigits_length]; exact h1
      refine ⟨hsz, ?_⟩
      obtain ⟨d, l, hd, h1d, h9d⟩ := head_dec h1
      have hb := Lib.data_getElem? (⟨(decDigits (N / 10 ^ sc)).toArray⟩ : ByteArray) 0 (by omega)
      have hb2 : (decDigits (N / 10 ^ sc))[0]? = some (UInt8.ofNat (48 + d)) := by rw [hd]; rfl
      have hb3 : (⟨(decDigits (N / 10 ^ sc)).toArray⟩ : ByteArray)[0] = UInt8.ofNat (48 + d) := Option.some.inj (hb.symm.trans hb2)
      rw [hb3, dig_ofNat (by omega)]
      omega
    · left
      show ¬ 1 < (decDigits (N / 10 ^ sc)).toArray.size
      rw [List.size_toArray, decDigits_length]
      exact h1

/-- A number's shortest form, out of itself. -/
theorem dec_self {n s : Int} {N sc : Nat} (h : soundS n s = true) (hs : s = (sc : Int)) (hN : mag n = (N : Int)) : decS sc N (decide (n < 0)) = ⟨n, s, 0⟩ := by
  obtain ⟨b1, b2, b3, b4, _⟩ := sound_bd h
  have hm := make_ok (n := n) (s := s) ⟨b1, b2, b3, b4⟩
  unfold soundS at h
  rw [hm, hN, show s.toNat = sc by omega] at h
  simp only [Bool.and_eq_true, beq_iff_eq] at h
  obtain ⟨h1, h2, h3⟩ := h
  cases hd : decS sc N (decide (n < 0)) with
  | mk a b c =>
    rw [hd] at h1 h2 h3
    simp only at h1 h2 h3
    rw [h1, h2, h3]

theorem parse_back (n s : Int) (N sc : Nat) (h : soundS n s = true) (hs : s = (sc : Int)) (hN : mag n = (N : Int)) (T : ByteArray) (hT : ⟨(textS (decide (n < 0)) N sc).toArray⟩ = T) (m : Int) (w : World) (hm : w.cell? ⟨1, 0, none⟩ = some (.int .i64 m)) :
    Calls Tryd.prog 6 #[.string T] w fun e w' => e = .returned (.tuple #[.agg #[.int .i64 n, .int .i64 s], .int .i64 0]) ∧ Below w.heap.size w w' := by
  obtain ⟨b1, b2, b3, b4, b5⟩ := sound_bd h
  have hmb := mag_bd b3 b4
  have hmod : sc = 0 ∨ ¬ N % 10 = 0 := by
    rcases b5 with b5 | b5
    · exact .inl (by omega)
    · refine .inr ?_
      unfold mag at hN
      split at hN <;> omega
  obtain ⟨r, wh, pa, pt, dot, H, hw, hp, h12, hpt, hu, hz⟩ := cut_of (minus := decide (n < 0)) (by omega) (by omega) hmod T hT
  have hd := dec_self h hs hN
  rw [← hpt] at hd
  rcases hz with hz | ⟨hz, hz2⟩
  · have := parse_Fo H hw hp hz (by omega) h12 N hu (by omega) m w hm
    rw [hd] at this
    exact this
  · have := parse_Ft H hw hp hz hz2 (by omega) h12 N hu (by omega) m w hm
    rw [hd] at this
    exact this
end Go.Proofs.YtlmcjnekkhdmiaaDoor
