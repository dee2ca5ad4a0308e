/- Plain laws of the texts of days: digits with leading noughts, split and read. No program in sight. -/
import Derived.Lib.ItoaNum
import Derived.Lib.Split
import Derived.Lib.SplitLaws
import Derived.Lib.Atoi
import Derived.Lib.SlTrimSet
import Derived.Test.YtapilekangmcoaaGreatDoorN1
set_option linter.unusedVariables false
set_option linter.unusedSimpArgs false
set_option maxHeartbeats 8000000
set_option maxRecDepth 100000
namespace Go.Proofs.YtapilekangmcoaaGreatDoor.Days
open Go.Lib
/-- n in so many digits. -/
def pd : Nat → Nat → List UInt8
 | 0, _ => []
 | k + 1, n => pd k (n / 10) ++ [UInt8.ofNat (48 + n % 10)]
theorem pd_length : ∀ (k n : Nat), (pd k n).length = k
 | 0, _ => rfl
 | k + 1, n => by simp [pd, pd_length k]
theorem pd_zero : ∀ k : Nat, pd k 0 = List.replicate k 48
 | 0 => rfl
 | k + 1 => by
   rw [pd, Nat.zero_div, pd_zero k, Nat.zero_mod, List.replicate_succ']
   rfl
theorem pad_pd : ∀ (k n : Nat), 0 < k → n < 10 ^ k → nDigits n ≤ k ∧ List.replicate (k - nDigits n) 48 ++ decDigits n = pd k n
 | 0, _, h, _ => by omega
 | k + 1, n, _, hn => by
   by_cases h : n < 10
   · rw [nDigits_small h, decDigits_one h, Nat.add_sub_cancel, pd, Nat.div_eq_of_lt h, pd_zero, Nat.mod_eq_of_lt h]
     exact ⟨by omega, rfl⟩
   · have hk : 0 < k := by
       apply Nat.pos_of_ne_zero
       rintro rfl
       simp at hn
       omega
     have hn2 : n / 10 < 10 ^ k := by rw [Nat.pow_succ] at hn; omega
     obtain ⟨h1, h2⟩ := pad_pd k (n / 10) hk hn2
     rw [nDigits_big h, decDigits, dif_neg h, pd, ← h2, ← List.append_assoc, Nat.add_sub_add_right]
     exact ⟨by omega, rfl⟩
/-- A row of digits. -/
def allDig (l : List UInt8) : Bool := l.all fun b => decide (48 ≤ b.toNat ∧ b.toNat ≤ 57)
theorem dig_ofNat {d : Nat} (h : d < 10) : (UInt8.ofNat (48 + d)).toNat = 48 + d := by simp [UInt8.toNat_ofNat']; omega
theorem allDig_pd : ∀ (k n : Nat), allDig (pd k n) = true
 | 0, _ => rfl
 | k + 1, n => by
   have h := allDig_pd k (n / 10)
   unfold allDig at h ⊢
   rw [pd, List.all_append, h]
   have := dig_ofNat (d := n % 10) (by omega)
   simp [this]
   omega
theorem allDig_no45 {l : List UInt8} (h : allDig l = true) : ∀ b ∈ l, b ≠ 45 := by
 intro b hb e
 subst e
 have := List.all_eq_true.1 h _ hb
 revert this
 decide
theorem decFrom_append : ∀ (l r : List UInt8) (a n : Nat), decFrom a l = some n → decFrom a (l ++ r) = decFrom n r
 | [], r, a, n, h => by cases h; rfl
 | b :: l, r, a, n, h => by
   rw [List.cons_append, decFrom]
   rw [decFrom] at h
   cases hd : digitVal b with
   | none => rw [hd] at h; cases h
   | some d => rw [hd] at h; exact decFrom_append l r _ n h
theorem decFrom_pd : ∀ (k n : Nat), n < 10 ^ k → decFrom 0 (pd k n) = some n
 | 0, n, h => by
   simp at h
   subst h
   rfl
 | k + 1, n, h => by
   rw [pd, decFrom_append _ _ _ _ (decFrom_pd k (n / 10) (by rw [Nat.pow_succ] at h; omega)), decFrom, digitVal, if_pos (by rw [dig_ofNat (by omega)]; omega), dig_ofNat (by omega)]
   simp only [decFrom]
   congr 1
   omega
theorem atoi_digits {l : List UInt8} {n : Nat} (hne : l ≠ []) (hd : allDig l = true) (h : decFrom 0 l = some n) : atoi l = some (n : Int) := by
 cases l with
 | nil => exact absurd rfl hne
 | cons b r =>
   have hb := List.all_eq_true.1 hd b (by simp)
   simp only [decide_eq_true_eq] at hb
   have h1 : (b == 45) = false := by
     rw [beq_eq_false_iff_ne]; rintro rfl; revert hb; decide
   have h2 : (b == 43) = false := by
     rw [beq_eq_false_iff_ne]; rintro rfl; revert hb; decide
   rw [atoi, h1, h2]
   simp only [Bool.false_eq_true, if_false]
   unfold decNat
   simp [h]
/-- The text that Trim leaves of digits alone is empty, and of nothing else. -/
def cutset : ByteArray := ⟨#[48, 49, 50, 51, 52, 53, 54, 55, 56, 57]⟩
theorem in_cutset (b : UInt8) : cutset.data.toList.contains b = decide (48 ≤ b.toNat ∧ b.toNat ≤ 57) := by
 have h : ∀ n : Fin 256, cutset.data.toList.contains (UInt8.ofNat n.val) = decide (48 ≤ (UInt8.ofNat n.val).toNat ∧ (UInt8.ofNat n.val).toNat ≤ 57) := by decide +kernel
 have := h ⟨b.toNat, b.toNat_lt⟩
 simpa using this
theorem dropWhile_nil {p : UInt8 → Bool} : ∀ (l : List UInt8), (l.dropWhile p).isEmpty = l.all p
 | [] => rfl
 | b :: l => by
   rw [List.dropWhile_cons, List.all_cons]
   cases p b with
   | true => simpa using dropWhile_nil l
   | false => simp
theorem dropWhile_idem {p : UInt8 → Bool} (l : List UInt8) (h : l.all p = true) : l.dropWhile p = [] := by
 have := dropWhile_nil (p := p) l
 rw [h] at this
 exact List.isEmpty_iff.1 this
theorem trim_digits (l : List UInt8) : (trimS l cutset.data.toList).isEmpty = allDig l := by
 have hp : (fun b => cutset.data.toList.contains b) = fun b : UInt8 => decide (48 ≤ b.toNat ∧ b.toNat ≤ 57) := funext in_cutset
 unfold trimS trimLeftS trimRightS allDig
 rw [hp, dropWhile_nil]
 by_cases h : (l.all fun b => decide (48 ≤ b.toNat ∧ b.toNat ≤ 57)) = true
 · rw [h, dropWhile_idem l.reverse (by rw [List.all_reverse]; exact h)]
   rfl
 · rw [Bool.eq_false_iff.2 h, Bool.eq_false_iff]
   intro h2
   rw [List.all_reverse] at h2
   apply h
   have h3 : (l.reverse.dropWhile fun b => decide (48 ≤ b.toNat ∧ b.toNat ≤ 57)) = [] := by
     cases hc : (l.reverse.dropWhile fun b => decide (48 ≤ b.toNat ∧ b.toNat ≤ 57)) with
     | nil => rfl
     | cons a t =>
       have h4 := List.head?_dropWhile_not (fun b : UInt8 => decide (48 ≤ b.toNat ∧ b.toNat ≤ 57)) l.reverse
       rw [hc] at h4 h2
       simp only [List.head?_cons] at h4
       rw [List.all_cons] at h2
       simp only [Bool.and_eq_true] at h2
       rw [h2.1] at h4
       simp at h4
   have h5 := dropWhile_nil (p := fun b : UInt8 => decide (48 ≤ b.toNat ∧ b.toNat ≤ 57)) l.reverse
   rw [h3, List.all_reverse] at h5
   exact h5.symm
/-- Split at 45. -/
theorem index_at : ∀ (a r : List UInt8), (∀ b ∈ a, b ≠ 45) → index (a ++ 45 :: r) [45] = a.length
 | [], r, _ => by unfold index; simp
 | b :: a, r, h => by
   have hb : ¬ (45 : UInt8) = b := fun e => h b (by simp) e.symm
   have hp : List.isPrefixOf [45] (b :: (a ++ 45 :: r)) = false := by simp [List.isPrefixOf, hb]
   have hm : ((a.length : Int) == -1) = false := by rw [beq_eq_false_iff_ne]; omega
   rw [List.cons_append, index, hp, index_at a r fun x hx => h x (by simp [hx]), hm]
   simp
theorem index_no : ∀ (a : List UInt8), (∀ b ∈ a, b ≠ 45) → index a [45] = -1
 | [], _ => rfl
 | b :: a, h => by
   have hb : ¬ (45 : UInt8) = b := fun e => h b (by simp) e.symm
   have hp : List.isPrefixOf [45] (b :: a) = false := by simp [List.isPrefixOf, hb]
   rw [index, hp, index_no a fun x hx => h x (by simp [hx])]
   simp
theorem count_at (a r : List UInt8) (h : ∀ b ∈ a, b ≠ 45) : count (a ++ 45 :: r) [45] = 1 + count r [45] := by
 rw [count_hit (by simp) (index_at a r h)]
 congr 2
 rw [List.drop_append]
 simp
theorem splitK_at (a r : List UInt8) (k : Nat) (h : ∀ b ∈ a, b ≠ 45) : splitK [45] 0 (k + 1) (a ++ 45 :: r) = a :: splitK [45] 0 k r := by
 rw [splitK, index_at a r h]
 have : ((a.length : Int) == -1) = false := by rw [beq_eq_false_iff_ne]; omega
 rw [this]
 simp only [Bool.false_eq_true, if_false, Int.toNat_natCast, Nat.add_zero]
 congr 1
 · simp
 · congr 1
   rw [List.drop_append]
   simp
theorem splitK_no (a : List UInt8) (k : Nat) (h : ∀ b ∈ a, b ≠ 45) : splitK [45] 0 k a = [a] := by
 cases k with
 | zero => rfl
 | succ k => rw [splitK, index_no a h]; rfl
theorem split3 {a b c : List UInt8} (ha : ∀ x ∈ a, x ≠ 45) (hb : ∀ x ∈ b, x ≠ 45) (hc : ∀ x ∈ c, x ≠ 45) : count (a ++ 45 :: (b ++ 45 :: c)) [45] = 2 ∧ splitK [45] 0 2 (a ++ 45 :: (b ++ 45 :: c)) = [a, b, c] := by
 rw [count_at a _ ha, count_at b _ hb, count_miss (index_no c hc), splitK_at a _ 1 ha, splitK_at b _ 0 hb, splitK_no c 0 hc]
 exact ⟨rfl, rfl⟩
end Go.Proofs.YtapilekangmcoaaGreatDoor.Days
