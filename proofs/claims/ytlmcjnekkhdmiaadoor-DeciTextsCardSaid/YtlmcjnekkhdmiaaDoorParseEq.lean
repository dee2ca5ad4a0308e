/- Reading a text: both sides read alike. -/
import Derived.Test.YtlmcjnekkhdmiaaDoorRefParse
import Derived.Test.YtlmcjnekkhdmiaaDoorRefText
import Derived.Test.YtlmcjnekkhdmiaaDoorBackMath
set_option linter.unusedVariables false
set_option linter.unusedSimpArgs false
namespace Go.Proofs.YtlmcjnekkhdmiaaDoor
open Go.RowKit
open Go.Lib hiding intOf

theorem first_46 : ∀ (l : List UInt8), (46 : UInt8) ∈ l → ∃ a b, l = a ++ 46 :: b ∧ ∀ x ∈ a, x ≠ 46
  | [], h => by cases h
  | c :: l, h => by
    by_cases hc : c = 46
    · subst hc; exact ⟨[], l, rfl, by simp⟩
    · have h2 : (46 : UInt8) ∈ l := by
        rcases List.mem_cons.1 h with h | h
        · exact absurd h.symm hc
        · exact h
      obtain ⟨a, b, h3, h4⟩ := first_46 l h2
      refine ⟨c :: a, b, by rw [h3]; rfl, ?_⟩
      intro x hx
      rcases List.mem_cons.1 hx with h | h
      · rw [h]; exact hc
      · exact h4 x h
theorem byte_list (l : List UInt8) (j : Nat) : byteAt ⟨l.toArray⟩ j = l.getD j 0 := rfl
theorem getD_left {l r : List UInt8} {j : Nat} (h : j < l.length) : (l ++ r).getD j 0 = l.getD j 0 := by
  rw [List.getD_eq_getElem?_getD, List.getD_eq_getElem?_getD, List.getElem?_append_left h]
theorem getD_right {l r : List UInt8} {j : Nat} (h : l.length ≤ j) : (l ++ r).getD j 0 = r.getD (j - l.length) 0 := by
  rw [List.getD_eq_getElem?_getD, List.getD_eq_getElem?_getD, List.getElem?_append_right h]
theorem getD_mem {l : List UInt8} {j : Nat} (h : j < l.length) : l.getD j 0 ∈ l := by
  rw [List.getD_eq_getElem?_getD, List.getElem?_eq_getElem h]
  exact List.getElem_mem h
theorem mem_getD {l : List UInt8} {x : UInt8} (h : x ∈ l) : ∃ j, j < l.length ∧ l.getD j 0 = x := by
  obtain ⟨j, hj, hx⟩ := List.getElem_of_mem h
  exact ⟨j, hj, by rw [List.getD_eq_getElem?_getD, List.getElem?_eq_getElem hj]; exact hx⟩
theorem allDig_getD {l : List UInt8} : allDig l = true ↔ ∀ j, j < l.length → isD (l.getD j 0) = true := by
  constructor
  · intro h j hj
    exact List.all_eq_true.1 h _ (getD_mem hj)
  · intro h
    apply List.all_eq_true.2
    intro x hx
    obtain ⟨j, hj, e⟩ := mem_getD hx
    rw [← e]
    exact h j hj

/-- What the digits of a numeral are. -/
theorem digits_of : ∀ (n : Nat) (l : List UInt8), l.length = n → allDig l = true → ∃ u, decFrom 0 l = some u ∧ u < 10 ^ n ∧ ∀ i, i < n → (l.getD i 0).toNat - 48 = dig u (n - 1 - i)
  | 0, l, hn, _ => by
    rw [List.length_eq_zero_iff] at hn
    subst hn
    exact ⟨0, rfl, by simp, by omega⟩
  | n + 1, l, hn, hd => by
    rcases List.eq_nil_or_concat l with h | ⟨l', b, h⟩
    · rw [h] at hn; simp at hn
    · rw [List.concat_eq_append] at h
      subst h
      have hn' : l'.length = n := by simpa using hn
      unfold allDig at hd
      rw [List.all_append, Bool.and_eq_true] at hd
      obtain ⟨u, h1, h2, h3⟩ := digits_of n l' hn' hd.1
      have hb : 48 ≤ b.toNat ∧ b.toNat ≤ 57 := by
        have := hd.2
        simp only [List.all_cons, List.all_nil, Bool.and_true, decide_eq_true_eq] at this
        exact this
      refine ⟨u * 10 + (b.toNat - 48), ?_, by rw [Nat.pow_succ]; omega, ?_⟩
      · rw [decFrom_append _ _ _ _ h1, decFrom, digitVal, if_pos hb]
        rfl
      · intro i hi
        by_cases hin : i = n
        · subst hin
          rw [getD_right (by omega), hn', Nat.sub_self]
          show b.toNat - 48 = dig (u * 10 + (b.toNat - 48)) (i + 1 - 1 - i)
          rw [show i + 1 - 1 - i = 0 by omega]
          unfold dig
          simp
          omega
        · rw [getD_left (by omega), h3 i (by omega)]
          rw [show n + 1 - 1 - i = (n - 1 - i) + 1 by omega]
          unfold dig
          rw [Nat.pow_succ', ← Nat.div_div_eq_div_mul, show (u * 10 + (b.toNat - 48)) / 10 = u by omega]
theorem trim_sub (l : List UInt8) : ∃ t, l = Lib.trimRightB l 48 ++ t := by
  unfold Lib.trimRightB
  refine ⟨(l.reverse.takeWhile (· == 48)).reverse, ?_⟩
  rw [← List.reverse_append, List.takeWhile_append_dropWhile, List.reverse_reverse]
theorem digB_iff {s : ByteArray} : digB s = true ↔ s.size ≠ 0 ∧ allDig s.data.toList = true := by
  unfold digB
  rw [trim_digits, Lib.toList_data, Bool.and_eq_true]
  have : s.data.toList.length = s.size := by simp
  constructor
  · rintro ⟨h1, h2⟩
    refine ⟨?_, h2⟩
    intro h0
    rw [h0, List.length_eq_zero_iff] at this
    rw [this] at h1
    cases h1
  · rintro ⟨h1, h2⟩
    refine ⟨?_, h2⟩
    cases hc : s.data.toList with
    | nil => rw [hc] at this; simp at this; omega
    | cons a t => rfl

/-- The parts of a text, on both sides. -/
structure Parts2 (s r wh pa pt : ByteArray) (minus dot : Bool) : Prop where
  cut : CutUp s r wh pa pt minus dot
  m1 : minus = true → 0 < s.size ∧ byteAt s 0 = 45 ∧ s.extract 1 s.size = r
  m0 : minus = false → s = r ∧ (s.size = 0 ∨ byteAt s 0 ≠ 45)
  w1 : wh.size ≤ r.size
  w2 : dot = true → wh.size < r.size ∧ byteAt r wh.size = 46 ∧ r.extract 0 wh.size = wh ∧ r.extract (wh.size + 1) r.size = pa
  w3 : dot = false → r = wh ∧ pa = ⟨#[]⟩
  w4 : ∀ j, j < wh.size → byteAt r j ≠ 46
  all : (∀ j, j < r.size → okJ r wh.size dot j) ↔ allDig wh.data.toList = true ∧ (dot = true → allDig pa.data.toList = true)

theorem parts_ex (s : ByteArray) (hs : s.size < 140737488351233) : ∃ r wh pa pt minus dot, Parts2 s r wh pa pt minus dot := by
  obtain ⟨minus, hmi⟩ : ∃ b, Lib.hasPrefix s.data.toList [45] = b := ⟨_, rfl⟩
  obtain ⟨rl, hrl⟩ : ∃ l, Lib.trimPrefix s.data.toList [45] = l := ⟨_, rfl⟩
  have hsl : s.data.toList.length = s.size := by simp
  have hrle : rl.length ≤ s.size := by rw [← hrl, ← hsl]; exact Lib.trimPrefix_le _ _
  have hm1 : minus = true → 0 < s.size ∧ byteAt s 0 = 45 ∧ s.extract 1 s.size = ⟨rl.toArray⟩ := by
    intro h
    rw [h] at hmi
    have hl : ∃ t, s.data.toList = 45 :: t := by
      cases hc : s.data.toList with
      | nil => rw [hc] at hmi; cases hmi
      | cons a t =>
        rw [hc] at hmi
        have : (45 : UInt8) = a := by simpa [Lib.hasPrefix, List.isPrefixOf] using hmi
        exact ⟨t, by rw [this]⟩
    obtain ⟨t, ht⟩ := hl
    have hrt : rl = t := by rw [← hrl, ht]; exact (prefix_hit t).2
    refine ⟨by rw [← hsl, ht]; simp, by unfold byteAt; rw [ht]; rfl, ?_⟩
    apply ByteArray.ext
    apply Array.toList_inj.1
    rw [Lib.extract_to_end, ht, hrt]
    rfl
  have hm0 : minus = false → s = ⟨rl.toArray⟩ ∧ (s.size = 0 ∨ byteAt s 0 ≠ 45) := by
    intro h
    rw [h] at hmi
    have hrs : rl = s.data.toList := by rw [← hrl]; unfold Lib.trimPrefix; rw [hmi]; rfl
    refine ⟨by apply ByteArray.ext; apply Array.toList_inj.1; rw [hrs], ?_⟩
    cases hc : s.data.toList with
    | nil => left; rw [← hsl, hc]; rfl
    | cons a t =>
      right
      unfold byteAt
      rw [hc]
      intro e
      have e2 : a = 45 := e
      rw [hc, e2] at hmi
      simp [Lib.hasPrefix] at hmi
  by_cases h46 : (46 : UInt8) ∈ rl
  · obtain ⟨a, b, hab, hna⟩ := first_46 rl h46
    have hlen : rl.length = a.length + 1 + b.length := by rw [hab]; simp; omega
    refine ⟨⟨rl.toArray⟩, ⟨a.toArray⟩, ⟨b.toArray⟩, ⟨(Lib.trimRightB b 48).toArray⟩, minus, true, ⟨hrl, hmi, ?_, rfl, ?_, ?_, ?_, ?_⟩, hm1, hm0, ?_, ?_, ?_, ?_, ?_⟩
    · show Lib.cut rl [46] = (a, b, true)
      rw [hab]; exact cut_at hna
    · show rl.toArray.size < _; rw [List.size_toArray]; omega
    · show a.toArray.size ≤ _; rw [List.size_toArray]; omega
    · show b.toArray.size ≤ _; rw [List.size_toArray]; omega
    · show (Lib.trimRightB b 48).toArray.size ≤ _
      rw [List.size_toArray]
      obtain ⟨t, ht⟩ := trim_sub b
      have := congrArg List.length ht
      rw [List.length_append] at this
      omega
    · show a.toArray.size ≤ rl.toArray.size; rw [List.size_toArray, List.size_toArray]; omega
    · intro _
      refine ⟨?_, ?_, ?_, ?_⟩
      · show a.toArray.size < rl.toArray.size; rw [List.size_toArray, List.size_toArray]; omega
      · show rl.getD a.toArray.size 0 = 46
        rw [List.size_toArray, hab, getD_right (Nat.le_refl _), Nat.sub_self]
        rfl
      · apply ByteArray.ext
        apply Array.toList_inj.1
        rw [Lib.extract_from_zero]
        show rl.take a.toArray.size = a
        rw [List.size_toArray, hab]
        simp
      · apply ByteArray.ext
        apply Array.toList_inj.1
        rw [Lib.extract_to_end]
        show rl.drop (a.toArray.size + 1) = b
        rw [List.size_toArray, hab, List.drop_append]
        simp
    · intro h; cases h
    · intro j hj
      have hj' : j < a.length := hj
      show rl.getD j 0 ≠ 46
      rw [hab, getD_left hj']
      exact hna _ (getD_mem hj')
    · show (∀ j, j < rl.length → okJ ⟨rl.toArray⟩ a.length true j) ↔ allDig a = true ∧ (true = true → allDig b = true)
      rw [allDig_getD, allDig_getD]
      constructor
      · intro h
        refine ⟨fun j hj => ?_, fun _ j hj => ?_⟩
        · rcases h j (by omega) with ⟨_, e⟩ | e
          · omega
          · rw [byte_list, hab, getD_left hj] at e; exact e
        · rcases h (a.length + 1 + j) (by omega) with ⟨_, e⟩ | e
          · omega
          · rw [byte_list, hab, getD_right (by omega), show a.length + 1 + j - a.length = j + 1 by omega] at e
            exact e
      · rintro ⟨h1, h2⟩ j hj
        by_cases hja : j < a.length
        · right; rw [byte_list, hab, getD_left hja]; exact h1 j hja
        · by_cases hje : j = a.length
          · left; exact ⟨rfl, hje⟩
          · right
            obtain ⟨i, rfl⟩ : ∃ i, j = a.length + 1 + i := ⟨j - a.length - 1, by omega⟩
            rw [byte_list, hab, getD_right (by omega), show a.length + 1 + i - a.length = i + 1 by omega]
            exact h2 rfl i (by omega)
  · have hna : ∀ x ∈ rl, x ≠ 46 := fun x hx e => h46 (e ▸ hx)
    refine ⟨⟨rl.toArray⟩, ⟨rl.toArray⟩, ⟨#[]⟩, ⟨#[]⟩, minus, false, ⟨hrl, hmi, ?_, rfl, ?_, ?_, ?_, ?_⟩, hm1, hm0, Nat.le_refl _, ?_, ?_, ?_, ?_⟩
    · show Lib.cut rl [46] = (rl, [], false)
      exact cut_no hna
    · show rl.toArray.size < _; rw [List.size_toArray]; omega
    · show rl.toArray.size ≤ _; rw [List.size_toArray]; omega
    · show (0 : Nat) ≤ _; omega
    · show (0 : Nat) ≤ _; omega
    · intro h; cases h
    · intro _; exact ⟨rfl, rfl⟩
    · intro j hj
      exact hna _ (getD_mem hj)
    · show (∀ j, j < rl.length → okJ ⟨rl.toArray⟩ rl.length false j) ↔ allDig rl = true ∧ (false = true → allDig [] = true)
      rw [allDig_getD]
      constructor
      · intro h
        refine ⟨fun j hj => ?_, fun h => by cases h⟩
        rcases h j hj with ⟨e, _⟩ | e
        · cases e
        · exact e
      · rintro ⟨h1, _⟩ j hj
        exact .inr (h1 j hj)
end Go.Proofs.YtlmcjnekkhdmiaaDoor
