/- Plain laws of numerals: digits with leading noughts. No program in sight. The walk of the reference's Text. The walk of the program's Parse, at every text. The walk of the program's Text. Plain laws: what is written is read as it was; the units of a sum. -/
import Derived.Lib.ItoaNum
import Derived.Lib.Atoi
import Derived.Lib.SlTrimSet
import Derived.Test.YtapilekangmcoaaGreatDoorN12
import Derived.Test.YtapilekangmcoaaGreatDoorN10
set_option linter.unusedVariables false
set_option linter.unusedSimpArgs false
set_option maxHeartbeats 8000000
set_option maxRecDepth 100000
namespace Go.Proofs.YtapilekangmcoaaGreatDoor
open Go.Lib
/-- n in so many digits. -/
def pd : Nat → Nat → List UInt8
 | 0, _ => []
 | k + 1, n => pd k (n / 10) ++ [UInt8.ofNat (48 + n % 10)]
theorem pd_length : ∀ (k n : Nat), (pd k n).length = k
 | 0, _ => rfl
 | k + 1, n => by simp [pd, pd_length k]
theorem pd_zero : ∀ k : Nat, pd k 0 = List.replicate k 48
 | 0 => rfl
 | k + 1 => by
   rw [pd, Nat.zero_div, pd_zero k, Nat.zero_mod, List.replicate_succ']
   rfl
theorem pad_pd : ∀ (k n : Nat), 0 < k → n < 10 ^ k → nDigits n ≤ k ∧ List.replicate (k - nDigits n) 48 ++ decDigits n = pd k n
 | 0, _, h, _ => by omega
 | k + 1, n, _, hn => by
   by_cases h : n < 10
   · rw [nDigits_small h, decDigits_one h, Nat.add_sub_cancel, pd, Nat.div_eq_of_lt h, pd_zero, Nat.mod_eq_of_lt h]
     exact ⟨by omega, rfl⟩
   · have hk : 0 < k := by
       apply Nat.pos_of_ne_zero
       rintro rfl
       simp at hn
       omega
     have hn2 : n / 10 < 10 ^ k := by rw [Nat.pow_succ] at hn; omega
     obtain ⟨h1, h2⟩ := pad_pd k (n / 10) hk hn2
     rw [nDigits_big h, decDigits, dif_neg h, pd, ← h2, ← List.append_assoc, Nat.add_sub_add_right]
     exact ⟨by omega, rfl⟩
/-- A row of digits. -/
def allDig (l : List UInt8) : Bool := l.all fun b => decide (48 ≤ b.toNat ∧ b.toNat ≤ 57)
theorem dig_ofNat {d : Nat} (h : d < 10) : (UInt8.ofNat (48 + d)).toNat = 48 + d := by simp [UInt8.toNat_ofNat']; omega
theorem allDig_pd : ∀ (k n : Nat), allDig (pd k n) = true
 | 0, _ => rfl
 | k + 1, n => by
   have h := allDig_pd k (n / 10)
   unfold allDig at h ⊢
   rw [pd, List.all_append, h]
   have := dig_ofNat (d := n % 10) (by omega)
   simp [this]
   omega
theorem allDig_no45 {l : List UInt8} (h : allDig l = true) : ∀ b ∈ l, b ≠ 45 := by
 intro b hb e
 subst e
 have := List.all_eq_true.1 h _ hb
 revert this
 decide
theorem decFrom_append : ∀ (l r : List UInt8) (a n : Nat), decFrom a l = some n → decFrom a (l ++ r) = decFrom n r
 | [], r, a, n, h => by cases h; rfl
 | b :: l, r, a, n, h => by
   rw [List.cons_append, decFrom]
   rw [decFrom] at h
   cases hd : digitVal b with
   | none => rw [hd] at h; cases h
   | some d => rw [hd] at h; exact decFrom_append l r _ n h
theorem decFrom_pd : ∀ (k n : Nat), n < 10 ^ k → decFrom 0 (pd k n) = some n
 | 0, n, h => by
   simp at h
   subst h
   rfl
 | k + 1, n, h => by
   rw [pd, decFrom_append _ _ _ _ (decFrom_pd k (n / 10) (by rw [Nat.pow_succ] at h; omega)), decFrom, digitVal, if_pos (by rw [dig_ofNat (by omega)]; omega), dig_ofNat (by omega)]
   simp only [decFrom]
   congr 1
   omega
theorem atoi_digits {l : List UInt8} {n : Nat} (hne : l ≠ []) (hd : allDig l = true) (h : decFrom 0 l = some n) : atoi l = some (n : Int) := by
 cases l with
 | nil => exact absurd rfl hne
 | cons b r =>
   have hb := List.all_eq_true.1 hd b (by simp)
   simp only [decide_eq_true_eq] at hb
   have h1 : (b == 45) = false := by
     rw [beq_eq_false_iff_ne]; rintro rfl; revert hb; decide
   have h2 : (b == 43) = false := by
     rw [beq_eq_false_iff_ne]; rintro rfl; revert hb; decide
   rw [atoi, h1, h2]
   simp only [Bool.false_eq_true, if_false]
   unfold decNat
   simp [h]
/-- What Trim leaves of digits alone. -/
theorem in_cutset (b : UInt8) : cutset.data.toList.contains b = decide (48 ≤ b.toNat ∧ b.toNat ≤ 57) := by
 have h : ∀ n : Fin 256, cutset.data.toList.contains (UInt8.ofNat n.val) = decide (48 ≤ (UInt8.ofNat n.val).toNat ∧ (UInt8.ofNat n.val).toNat ≤ 57) := by decide +kernel
 have := h ⟨b.toNat, b.toNat_lt⟩
 simpa using this
theorem dropWhile_nil {p : UInt8 → Bool} : ∀ (l : List UInt8), (l.dropWhile p).isEmpty = l.all p
 | [] => rfl
 | b :: l => by
   rw [List.dropWhile_cons, List.all_cons]
   cases p b with
   | true => simpa using dropWhile_nil l
   | false => simp
theorem dropWhile_idem {p : UInt8 → Bool} (l : List UInt8) (h : l.all p = true) : l.dropWhile p = [] := by
 have := dropWhile_nil (p := p) l
 rw [h] at this
 exact List.isEmpty_iff.1 this
theorem trim_digits (l : List UInt8) : (trimS l cutset.data.toList).isEmpty = allDig l := by
 have hp : (fun b => cutset.data.toList.contains b) = fun b : UInt8 => decide (48 ≤ b.toNat ∧ b.toNat ≤ 57) := funext in_cutset
 unfold trimS trimLeftS trimRightS allDig
 rw [hp, dropWhile_nil]
 by_cases h : (l.all fun b => decide (48 ≤ b.toNat ∧ b.toNat ≤ 57)) = true
 · rw [h, dropWhile_idem l.reverse (by rw [List.all_reverse]; exact h)]
   rfl
 · rw [Bool.eq_false_iff.2 h, Bool.eq_false_iff]
   intro h2
   rw [List.all_reverse] at h2
   apply h
   have h3 : (l.reverse.dropWhile fun b => decide (48 ≤ b.toNat ∧ b.toNat ≤ 57)) = [] := by
     cases hc : (l.reverse.dropWhile fun b => decide (48 ≤ b.toNat ∧ b.toNat ≤ 57)) with
     | nil => rfl
     | cons a t =>
       have h4 := List.head?_dropWhile_not (fun b : UInt8 => decide (48 ≤ b.toNat ∧ b.toNat ≤ 57)) l.reverse
       rw [hc] at h4 h2
       simp only [List.head?_cons] at h4
       rw [List.all_cons] at h2
       simp only [Bool.and_eq_true] at h2
       rw [h2.1] at h4
       simp at h4
   have h5 := dropWhile_nil (p := fun b : UInt8 => decide (48 ≤ b.toNat ∧ b.toNat ≤ 57)) l.reverse
   rw [h3, List.all_reverse] at h5
   exact h5.symm
theorem pd_cons : ∀ (k n : Nat), pd (k + 1) n = UInt8.ofNat (48 + n / 10 ^ k % 10) :: pd k n
 | 0, n => by simp [pd]
 | k + 1, n => by
   rw [pd, pd_cons k (n / 10), List.cons_append, Nat.div_div_eq_div_mul, ← Nat.pow_succ']
   rfl
theorem pd_add (a b n : Nat) : pd (a + b) n = pd a (n / 10 ^ b) ++ pd b n := by
 induction b generalizing n with
 | zero => simp [pd]
 | succ b ih =>
   rw [← Nat.add_assoc, pd, ih (n / 10), pd, ← List.append_assoc, Nat.div_div_eq_div_mul, ← Nat.pow_succ']
theorem dec_pd (n : Nat) : decDigits n = pd (nDigits n) n := by
 have h := (pad_pd (nDigits n) n (nDigits_pos n) (lt_pow_nDigits n)).2
 rw [Nat.sub_self] at h
 exact h
theorem nDigits_le {n k : Nat} (hk : 0 < k) (h : n < 10 ^ k) : nDigits n ≤ k := (pad_pd k n hk h).1
/-- A number's text without its sign. -/
def textU (N sc : Nat) : List UInt8 := if sc = 0 then decDigits N else decDigits (N / 10 ^ sc) ++ 46 :: pd sc N
def textS (minus : Bool) (N sc : Nat) : List UInt8 := if minus then 45 :: textU N sc else textU N sc
theorem nDigits_div {N sc : Nat} : nDigits (N / 10 ^ sc) + sc = max (nDigits N) (sc + 1) := by
 induction sc generalizing N with
 | zero => simp; have := nDigits_pos N; omega
 | succ k ih =>
   by_cases h : N < 10
   · have : N / 10 ^ (k + 1) = 0 := Nat.div_eq_of_lt (Nat.lt_of_lt_of_le h (by rw [Nat.pow_succ]; have : 0 < 10 ^ k := Nat.pow_pos (by decide); omega))
     rw [this, nDigits_small h, nDigits_small (by decide)]
     omega
   · have e : N / 10 ^ (k + 1) = N / 10 / 10 ^ k := by rw [Nat.div_div_eq_div_mul, ← Nat.pow_succ']
     rw [e, nDigits_big h]
     have := ih (N := N / 10)
     omega
/-- How the program cuts the digits at the point. -/
theorem cut_text {N sc : Nat} (hs : 0 < sc) : ((List.replicate (sc + 1 - nDigits N) 48 ++ decDigits N).take (max (nDigits N) (sc + 1) - sc) ++ [46]) ++ (List.replicate (sc + 1 - nDigits N) 48 ++ decDigits N).drop (max (nDigits N) (sc + 1) - sc) = textU N sc := by
 have hM : N < 10 ^ max (nDigits N) (sc + 1) := Nat.lt_of_lt_of_le (lt_pow_nDigits N) (Nat.pow_le_pow_right (by decide) (Nat.le_max_left _ _))
 have h1 := (pad_pd (max (nDigits N) (sc + 1)) N (by omega) hM).2
 have e1 : max (nDigits N) (sc + 1) - nDigits N = sc + 1 - nDigits N := by omega
 rw [e1] at h1
 have h2 := nDigits_div (N := N) (sc := sc)
 have e2 : max (nDigits N) (sc + 1) - sc = nDigits (N / 10 ^ sc) := by omega
 rw [h1, e2, ← h2, pd_add]
 rw [List.take_append_of_le_length (by rw [pd_length]; exact Nat.le_refl _), List.take_of_length_le (by rw [pd_length]; exact Nat.le_refl _), List.drop_append_of_le_length (by rw [pd_length]; exact Nat.le_refl _), List.drop_of_length_le (by rw [pd_length]; exact Nat.le_refl _)]
 unfold textU
 rw [if_neg (by omega), ← dec_pd]
 simp
end Go.Proofs.YtapilekangmcoaaGreatDoor
namespace Go.Proofs.YtapilekangmcoaaGreatDoor
open Go.RowKit
open Go.Lib hiding intOf
attribute [local go_sem high] run_dec_eql run_dec_neq
end Go.Proofs.YtapilekangmcoaaGreatDoor
namespace Go.Proofs.YtapilekangmcoaaGreatDoor
open Go.RowKit
open Go.Lib hiding intOf
/-- What the program cuts a text into. -/
structure CutUp (s r wh pa pt : ByteArray) (minus dot : Bool) : Prop where
 h1 : Lib.trimPrefix s.data.toList [45] = r.data.toList
 h2 : Lib.hasPrefix s.data.toList [45] = minus
 h3 : Lib.cut r.data.toList [46] = (wh.data.toList, pa.data.toList, dot)
 h4 : Lib.trimRightB pa.data.toList 48 = pt.data.toList
 s1 : r.size < 4294967281
 s2 : wh.size ≤ 4294967281
 s3 : pa.size ≤ 4294967281
 s4 : pt.size ≤ 4294967281
theorem digits_lit {s : ByteArray} {b : Bool} (hs : s.size ≤ 4294967281) (h : digB s = b) (w : World) :
   Calls Tryz.prog 178 #[.string s] w fun e w' => e = .returned (.bool b) ∧ Below w.heap.size w w' := h ▸ digits_any s (by omega) w
set_option maxHeartbeats 2000000 in
theorem parse_A {s r wh pa pt : ByteArray} {minus dot : Bool} (H : CutUp s r wh pa pt minus dot) (hw : digB wh = false) (m : Int) (w : World) (hm : w.cell? ⟨5, 0, none⟩ = some (.int .i64 m)) :
   Calls Tryz.prog 153 #[.string s] w fun e w' => e = .returned (.tuple #[.agg #[.int .i64 (0), .int .i64 (0)], .int .i64 (5)]) ∧ Below w.heap.size w w' := by
 have hb1 := Blk.new w 23 #[.int .i64 0, .int .i64 0]
 have hm2 : (w.alloc (.cells #[.int .i64 0, .int .i64 0] 23)).cell? ⟨5, 0, none⟩ = some (.int .i64 m) := by exact (World.cell?_alloc_some w _ _ (by rw [hm]; rfl)).trans hm
 have HM := Lib.hid hm2
 have HPr := Lib.hid (fun w => prefix_lit s r minus w H.h1 H.h2)
 have HCu := Lib.hid (fun w hm => cut_lit r wh pa dot m w H.s1 hm H.h3)
 have s2 := H.s2
 have s3 := H.s3
 have s4 := H.s4
 have HRi := Lib.hid (fun w => right_lit pa pt w (by omega) H.h4)
 have HW := Lib.hid (fun w => digits_lit s2 hw w)
 clear hm hm2 H hw
 all_goals
   go_enter Tryz.func153, Tryz.ntmps153
   go_wp2_with fail
   refine (HPr.out _).mono ?_
   rintro e w1 ⟨rfl, rfl⟩
   go_wp2_with fail
   refine (HCu.out _ HM.out).mono ?_
   rintro e w2 ⟨rfl, hb2⟩
   replace hb1 := hb1.step hb2
   go_wp2_with fail
   refine (HW.out _).mono ?_
   rintro e w3 ⟨rfl, hb3⟩
   replace hb1 := hb1.step hb3
   go_wp2_with (refine wpList_store_blk hb1 rfl _ _ _ (by rfl) _ (by rfl) (by rfl) (by repeat first | with_reducible first | exact hb1 | apply Blk.alloc | apply Blk.drew | refine Blk.far ?_ (by simp <;> omega) _ | refine Blk.turn ?_ ‹_› (by omega)) (by rfl) (by kernel_rfl) (by simp [Value.oneCell']) ?_; intro wt hb1n ht)
   refine ret_blk2 rfl hb1n rfl Tryz.underlying23 rfl (by kernel_rfl) rfl ?_
   exact ⟨rfl, by (repeat' first | (with_reducible first | exact .refl _ _ | assumption | apply balloc | apply Below.drew | apply bset | refine bstep ?_ ‹_› | refine bturn ?_ ‹_› ?_) | go_size)⟩
set_option maxHeartbeats 2000000 in
theorem parse_B {s r wh pa pt : ByteArray} {minus dot : Bool} (H : CutUp s r wh pa pt minus dot) (hw : digB wh = true) (hd : dot = true) (hp : digB pa = false) (m : Int) (w : World) (hm : w.cell? ⟨5, 0, none⟩ = some (.int .i64 m)) :
   Calls Tryz.prog 153 #[.string s] w fun e w' => e = .returned (.tuple #[.agg #[.int .i64 (0), .int .i64 (0)], .int .i64 (5)]) ∧ Below w.heap.size w w' := by
 have hb1 := Blk.new w 23 #[.int .i64 0, .int .i64 0]
 have hm2 : (w.alloc (.cells #[.int .i64 0, .int .i64 0] 23)).cell? ⟨5, 0, none⟩ = some (.int .i64 m) := by exact (World.cell?_alloc_some w _ _ (by rw [hm]; rfl)).trans hm
 have HM := Lib.hid hm2
 have HPr := Lib.hid (fun w => prefix_lit s r minus w H.h1 H.h2)
 have HCu := Lib.hid (fun w hm => cut_lit r wh pa dot m w H.s1 hm H.h3)
 have s2 := H.s2
 have s3 := H.s3
 have s4 := H.s4
 have HRi := Lib.hid (fun w => right_lit pa pt w (by omega) H.h4)
 have HW := Lib.hid (fun w => digits_lit s2 hw w)
 have HP := Lib.hid (fun w => digits_lit s3 hp w)
 subst hd
 clear hm hm2 H hw hp
 all_goals
   go_enter Tryz.func153, Tryz.ntmps153
   go_wp2_with fail
   refine (HPr.out _).mono ?_
   rintro e w1 ⟨rfl, rfl⟩
   go_wp2_with fail
   refine (HCu.out _ HM.out).mono ?_
   rintro e w2 ⟨rfl, hb2⟩
   replace hb1 := hb1.step hb2
   go_wp2_with fail
   refine (HW.out _).mono ?_
   rintro e w3 ⟨rfl, hb3⟩
   replace hb1 := hb1.step hb3
   go_wp2_with fail
   refine (HP.out _).mono ?_
   rintro e w4 ⟨rfl, hb4⟩
   replace hb1 := hb1.step hb4
   go_wp2_with (refine wpList_store_blk hb1 rfl _ _ _ (by rfl) _ (by rfl) (by rfl) (by repeat first | with_reducible first | exact hb1 | apply Blk.alloc | apply Blk.drew | refine Blk.far ?_ (by simp <;> omega) _ | refine Blk.turn ?_ ‹_› (by omega)) (by rfl) (by kernel_rfl) (by simp [Value.oneCell']) ?_; intro wt hb1n ht)
   refine ret_blk2 rfl hb1n rfl Tryz.underlying23 rfl (by kernel_rfl) rfl ?_
   exact ⟨rfl, by (repeat' first | (with_reducible first | exact .refl _ _ | assumption | apply balloc | apply Below.drew | apply bset | refine bstep ?_ ‹_› | refine bturn ?_ ‹_› ?_) | go_size)⟩
set_option maxHeartbeats 2000000 in
theorem parse_C {s r wh pa pt : ByteArray} {minus dot : Bool} (H : CutUp s r wh pa pt minus dot) (hw : digB wh = true) (hp : dot = false ∨ dot = true ∧ digB pa = true) (hz : 1 < wh.size) (hz2 : (wh[0]'(by omega)).toNat = 48) (m : Int) (w : World) (hm : w.cell? ⟨5, 0, none⟩ = some (.int .i64 m)) :
   Calls Tryz.prog 153 #[.string s] w fun e w' => e = .returned (.tuple #[.agg #[.int .i64 (0), .int .i64 (0)], .int .i64 (5)]) ∧ Below w.heap.size w w' := by
 have hb1 := Blk.new w 23 #[.int .i64 0, .int .i64 0]
 have hm2 : (w.alloc (.cells #[.int .i64 0, .int .i64 0] 23)).cell? ⟨5, 0, none⟩ = some (.int .i64 m) := by exact (World.cell?_alloc_some w _ _ (by rw [hm]; rfl)).trans hm
 have HM := Lib.hid hm2
 have HPr := Lib.hid (fun w => prefix_lit s r minus w H.h1 H.h2)
 have HCu := Lib.hid (fun w hm => cut_lit r wh pa dot m w H.s1 hm H.h3)
 have s2 := H.s2
 have s3 := H.s3
 have s4 := H.s4
 have HRi := Lib.hid (fun w => right_lit pa pt w (by omega) H.h4)
 have HW := Lib.hid (fun w => digits_lit s2 hw w)
 have hz1 : (1 : Int) < (wh.size : Int) := by omega
 have hz3 : (((wh[0]'(by omega)).toNat : Nat) : Int) = 48 := by omega
 clear hm hm2 H hw hz2
 rcases hp with rfl | ⟨rfl, hp2⟩
 · go_enter Tryz.func153, Tryz.ntmps153
   go_wp2_with fail
   refine (HPr.out _).mono ?_
   rintro e w1 ⟨rfl, rfl⟩
   go_wp2_with fail
   refine (HCu.out _ HM.out).mono ?_
   rintro e w2 ⟨rfl, hb2⟩
   replace hb1 := hb1.step hb2
   go_wp2_with fail
   refine (HW.out _).mono ?_
   rintro e w3 ⟨rfl, hb3⟩
   replace hb1 := hb1.step hb3
   go_wp2_with (refine wpList_store_blk hb1 rfl _ _ _ (by rfl) _ (by rfl) (by rfl) (by repeat first | with_reducible first | exact hb1 | apply Blk.alloc | apply Blk.drew | refine Blk.far ?_ (by simp <;> omega) _ | refine Blk.turn ?_ ‹_› (by omega)) (by rfl) (by kernel_rfl) (by simp [Value.oneCell']) ?_; intro wt hb1n ht)
   refine ret_blk2 rfl hb1n rfl Tryz.underlying23 rfl (by kernel_rfl) rfl ?_
   exact ⟨rfl, by (repeat' first | (with_reducible first | exact .refl _ _ | assumption | apply balloc | apply Below.drew | apply bset | refine bstep ?_ ‹_› | refine bturn ?_ ‹_› ?_) | go_size)⟩
 · have HP := Lib.hid (fun w => digits_lit s3 hp2 w)
   clear hp2
   go_enter Tryz.func153, Tryz.ntmps153
   go_wp2_with fail
   refine (HPr.out _).mono ?_
   rintro e w1 ⟨rfl, rfl⟩
   go_wp2_with fail
   refine (HCu.out _ HM.out).mono ?_
   rintro e w2 ⟨rfl, hb2⟩
   replace hb1 := hb1.step hb2
   go_wp2_with fail
   refine (HW.out _).mono ?_
   rintro e w3 ⟨rfl, hb3⟩
   replace hb1 := hb1.step hb3
   go_wp2_with fail
   refine (HP.out _).mono ?_
   rintro e w4 ⟨rfl, hb4⟩
   replace hb1 := hb1.step hb4
   go_wp2_with (refine wpList_store_blk hb1 rfl _ _ _ (by rfl) _ (by rfl) (by rfl) (by repeat first | with_reducible first | exact hb1 | apply Blk.alloc | apply Blk.drew | refine Blk.far ?_ (by simp <;> omega) _ | refine Blk.turn ?_ ‹_› (by omega)) (by rfl) (by kernel_rfl) (by simp [Value.oneCell']) ?_; intro wt hb1n ht)
   refine ret_blk2 rfl hb1n rfl Tryz.underlying23 rfl (by kernel_rfl) rfl ?_
   exact ⟨rfl, by (repeat' first | (with_reducible first | exact .refl _ _ | assumption | apply balloc | apply Below.drew | apply bset | refine bstep ?_ ‹_› | refine bturn ?_ ‹_› ?_) | go_size)⟩
set_option maxHeartbeats 2000000 in
theorem parse_Do {s r wh pa pt : ByteArray} {minus dot : Bool} (H : CutUp s r wh pa pt minus dot) (hw : digB wh = true) (hp : dot = false ∨ dot = true ∧ digB pa = true) (hz : ¬ 1 < wh.size) (hl : 6 < pt.size) (m : Int) (w : World) (hm : w.cell? ⟨5, 0, none⟩ = some (.int .i64 m)) :
   Calls Tryz.prog 153 #[.string s] w fun e w' => e = .returned (.tuple #[.agg #[.int .i64 (0), .int .i64 (0)], .int .i64 (3)]) ∧ Below w.heap.size w w' := by
 have hb1 := Blk.new w 23 #[.int .i64 0, .int .i64 0]
 have hm2 : (w.alloc (.cells #[.int .i64 0, .int .i64 0] 23)).cell? ⟨5, 0, none⟩ = some (.int .i64 m) := by exact (World.cell?_alloc_some w _ _ (by rw [hm]; rfl)).trans hm
 have HM := Lib.hid hm2
 have HPr := Lib.hid (fun w => prefix_lit s r minus w H.h1 H.h2)
 have HCu := Lib.hid (fun w hm => cut_lit r wh pa dot m w H.s1 hm H.h3)
 have s2 := H.s2
 have s3 := H.s3
 have s4 := H.s4
 have HRi := Lib.hid (fun w => right_lit pa pt w (by omega) H.h4)
 have HW := Lib.hid (fun w => digits_lit s2 hw w)
 have hz1 : ¬ (1 : Int) < (wh.size : Int) := by omega
 have hl1 : (6 : Int) < (pt.size : Int) := by omega
 clear hm hm2 H hw 
 rcases hp with rfl | ⟨rfl, hp2⟩
 · go_enter Tryz.func153, Tryz.ntmps153
   go_wp2_with fail
   refine (HPr.out _).mono ?_
   rintro e w1 ⟨rfl, rfl⟩
   go_wp2_with fail
   refine (HCu.out _ HM.out).mono ?_
   rintro e w2 ⟨rfl, hb2⟩
   replace hb1 := hb1.step hb2
   go_wp2_with fail
   refine (HW.out _).mono ?_
   rintro e w3 ⟨rfl, hb3⟩
   replace hb1 := hb1.step hb3
   go_wp2_with fail
   refine (HRi.out _).mono ?_
   rintro e w5 ⟨rfl, rfl⟩
   go_wp2_with (refine wpList_store_blk hb1 rfl _ _ _ (by rfl) _ (by rfl) (by rfl) (by repeat first | with_reducible first | exact hb1 | apply Blk.alloc | apply Blk.drew | refine Blk.far ?_ (by simp <;> omega) _ | refine Blk.turn ?_ ‹_› (by omega)) (by rfl) (by kernel_rfl) (by simp [Value.oneCell']) ?_; intro wt hb1n ht)
   refine ret_blk2 rfl hb1n rfl Tryz.underlying23 rfl (by kernel_rfl) rfl ?_
   exact ⟨rfl, by (repeat' first | (with_reducible first | exact .refl _ _ | assumption | apply balloc | apply Below.drew | apply bset | refine bstep ?_ ‹_› | refine bturn ?_ ‹_› ?_) | go_size)⟩
 · have HP := Lib.hid (fun w => digits_lit s3 hp2 w)
   clear hp2
   go_enter Tryz.func153, Tryz.ntmps153
   go_wp2_with fail
   refine (HPr.out _).mono ?_
   rintro e w1 ⟨rfl, rfl⟩
   go_wp2_with fail
   refine (HCu.out _ HM.out).mono ?_
   rintro e w2 ⟨rfl, hb2⟩
   replace hb1 := hb1.step hb2
   go_wp2_with fail
   refine (HW.out _).mono ?_
   rintro e w3 ⟨rfl, hb3⟩
   replace hb1 := hb1.step hb3
   go_wp2_with fail
   refine (HP.out _).mono ?_
   rintro e w4 ⟨rfl, hb4⟩
   replace hb1 := hb1.step hb4
   go_wp2_with fail
   refine (HRi.out _).mono ?_
   rintro e w5 ⟨rfl, rfl⟩
   go_wp2_with (refine wpList_store_blk hb1 rfl _ _ _ (by rfl) _ (by rfl) (by rfl) (by repeat first | with_reducible first | exact hb1 | apply Blk.alloc | apply Blk.drew | refine Blk.far ?_ (by simp <;> omega) _ | refine Blk.turn ?_ ‹_› (by omega)) (by rfl) (by kernel_rfl) (by simp [Value.oneCell']) ?_; intro wt hb1n ht)
   refine ret_blk2 rfl hb1n rfl Tryz.underlying23 rfl (by kernel_rfl) rfl ?_
   exact ⟨rfl, by (repeat' first | (with_reducible first | exact .refl _ _ | assumption | apply balloc | apply Below.drew | apply bset | refine bstep ?_ ‹_› | refine bturn ?_ ‹_› ?_) | go_size)⟩
set_option maxHeartbeats 2000000 in
theorem parse_Fo {s r wh pa pt : ByteArray} {minus dot : Bool} (H : CutUp s r wh pa pt minus dot) (hw : digB wh = true) (hp : dot = false ∨ dot = true ∧ digB pa = true) (hz : ¬ 1 < wh.size) (hl : pt.size ≤ 6) (hl2 : wh.size ≤ 12) (u : Nat) (hu : Lib.parseUintB 64 (wh ++ pt).data.toList = .ok u) (hu64 : u < 18446744073709551616) (m : Int) (w : World) (hm : w.cell? ⟨5, 0, none⟩ = some (.int .i64 m)) :
   Calls Tryz.prog 153 #[.string s] w fun e w' => e = .returned (.tuple #[.agg #[.int .i64 ((decS pt.size u minus).n), .int .i64 ((decS pt.size u minus).s)], .int .i64 ((decS pt.size u minus).e)]) ∧ Below w.heap.size w w' := by
 have hb1 := Blk.new w 23 #[.int .i64 0, .int .i64 0]
 have hm2 : (w.alloc (.cells #[.int .i64 0, .int .i64 0] 23)).cell? ⟨5, 0, none⟩ = some (.int .i64 m) := by exact (World.cell?_alloc_some w _ _ (by rw [hm]; rfl)).trans hm
 have HM := Lib.hid hm2
 have HPr := Lib.hid (fun w => prefix_lit s r minus w H.h1 H.h2)
 have HCu := Lib.hid (fun w hm => cut_lit r wh pa dot m w H.s1 hm H.h3)
 have s2 := H.s2
 have s3 := H.s3
 have s4 := H.s4
 have HRi := Lib.hid (fun w => right_lit pa pt w (by omega) H.h4)
 have HW := Lib.hid (fun w => digits_lit s2 hw w)
 have hz1 : ¬ (1 : Int) < (wh.size : Int) := by omega
 have hl1 : ¬ (6 : Int) < (pt.size : Int) := by omega
 have hl3 : ¬ (12 : Int) < (wh.size : Int) := by omega
 have HU := Lib.hid (fun w => uint_lit (wh ++ pt) u w (by rw [ByteArray.size_append]; omega) hu)
 have HDc := Lib.hid (fun w => dec_any (u : Int) (pt.size : Int) minus (by omega) (by omega) (by omega) (by omega) w)
 simp only [Int.toNat_natCast] at HDc
 clear hm hm2 H hw  hu
 rcases hp with rfl | ⟨rfl, hp2⟩
 · go_enter Tryz.func153, Tryz.ntmps153
   go_wp2_with fail
   refine (HPr.out _).mono ?_
   rintro e w1 ⟨rfl, rfl⟩
   go_wp2_with fail
   refine (HCu.out _ HM.out).mono ?_
   rintro e w2 ⟨rfl, hb2⟩
   replace hb1 := hb1.step hb2
   go_wp2_with fail
   refine (HW.out _).mono ?_
   rintro e w3 ⟨rfl, hb3⟩
   replace hb1 := hb1.step hb3
   go_wp2_with fail
   refine (HRi.out _).mono ?_
   rintro e w5 ⟨rfl, rfl⟩
   go_wp2_with fail
   refine (HU.out _).mono ?_
   rintro e w6 ⟨rfl, hb6⟩
   replace hb1 := hb1.step hb6
   go_wp2_with fail
   refine (HDc.out _).mono ?_
   rintro e w7 ⟨rfl, hb7⟩
   replace hb1 := hb1.step hb7
   go_wp2_with (refine wpList_store_blk hb1 rfl _ _ _ (by rfl) _ (by rfl) (by rfl) (by repeat first | with_reducible first | exact hb1 | apply Blk.alloc | apply Blk.drew | refine Blk.far ?_ (by simp <;> omega) _ | refine Blk.turn ?_ ‹_› (by omega)) (by rfl) (by kernel_rfl) (by simp [Value.oneCell']) ?_; intro wt hb1n ht)
   refine ret_blk2 rfl hb1n rfl Tryz.underlying23 rfl (by kernel_rfl) rfl ?_
   exact ⟨rfl, by (repeat' first | (with_reducible first | exact .refl _ _ | assumption | apply balloc | apply Below.drew | apply bset | refine bstep ?_ ‹_› | refine bturn ?_ ‹_› ?_) | go_size)⟩
 · have HP := Lib.hid (fun w => digits_lit s3 hp2 w)
   clear hp2
   go_enter Tryz.func153, Tryz.ntmps153
   go_wp2_with fail
   refine (HPr.out _).mono ?_
   rintro e w1 ⟨rfl, rfl⟩
   go_wp2_with fail
   refine (HCu.out _ HM.out).mono ?_
   rintro e w2 ⟨rfl, hb2⟩
   replace hb1 := hb1.step hb2
   go_wp2_with fail
   refine (HW.out _).mono ?_
   rintro e w3 ⟨rfl, hb3⟩
   replace hb1 := hb1.step hb3
   go_wp2_with fail
   refine (HP.out _).mono ?_
   rintro e w4 ⟨rfl, hb4⟩
   replace hb1 := hb1.step hb4
   go_wp2_with fail
   refine (HRi.out _).mono ?_
   rintro e w5 ⟨rfl, rfl⟩
   go_wp2_with fail
   refine (HU.out _).mono ?_
   rintro e w6 ⟨rfl, hb6⟩
   replace hb1 := hb1.step hb6
   go_wp2_with fail
   refine (HDc.out _).mono ?_
   rintro e w7 ⟨rfl, hb7⟩
   replace hb1 := hb1.step hb7
   go_wp2_with (refine wpList_store_blk hb1 rfl _ _ _ (by rfl) _ (by rfl) (by rfl) (by repeat first | with_reducible first | exact hb1 | apply Blk.alloc | apply Blk.drew | refine Blk.far ?_ (by simp <;> omega) _ | refine Blk.turn ?_ ‹_› (by omega)) (by rfl) (by kernel_rfl) (by simp [Value.oneCell']) ?_; intro wt hb1n ht)
   refine ret_blk2 rfl hb1n rfl Tryz.underlying23 rfl (by kernel_rfl) rfl ?_
   exact ⟨rfl, by (repeat' first | (with_reducible first | exact .refl _ _ | assumption | apply balloc | apply Below.drew | apply bset | refine bstep ?_ ‹_› | refine bturn ?_ ‹_› ?_) | go_size)⟩
set_option maxHeartbeats 2000000 in
theorem parse_Dt {s r wh pa pt : ByteArray} {minus dot : Bool} (H : CutUp s r wh pa pt minus dot) (hw : digB wh = true) (hp : dot = false ∨ dot = true ∧ digB pa = true) (hz : 1 < wh.size) (hz2 : ¬ (wh[0]'(by omega)).toNat = 48) (hl : 6 < pt.size) (m : Int) (w : World) (hm : w.cell? ⟨5, 0, none⟩ = some (.int .i64 m)) :
   Calls Tryz.prog 153 #[.string s] w fun e w' => e = .returned (.tuple #[.agg #[.int .i64 (0), .int .i64 (0)], .int .i64 (3)]) ∧ Below w.heap.size w w' := by
 have hb1 := Blk.new w 23 #[.int .i64 0, .int .i64 0]
 have hm2 : (w.alloc (.cells #[.int .i64 0, .int .i64 0] 23)).cell? ⟨5, 0, none⟩ = some (.int .i64 m) := by exact (World.cell?_alloc_some w _ _ (by rw [hm]; rfl)).trans hm
 have HM := Lib.hid hm2
 have HPr := Lib.hid (fun w => prefix_lit s r minus w H.h1 H.h2)
 have HCu := Lib.hid (fun w hm => cut_lit r wh pa dot m w H.s1 hm H.h3)
 have s2 := H.s2
 have s3 := H.s3
 have s4 := H.s4
 have HRi := Lib.hid (fun w => right_lit pa pt w (by omega) H.h4)
 have HW := Lib.hid (fun w => digits_lit s2 hw w)
 have hz1 : (1 : Int) < (wh.size : Int) := by omega
 have hz3 : ¬ (((wh[0]'(by omega)).toNat : Nat) : Int) = 48 := by omega
 have hl1 : (6 : Int) < (pt.size : Int) := by omega
 clear hm hm2 H hw hz2
 rcases hp with rfl | ⟨rfl, hp2⟩
 · go_enter Tryz.func153, Tryz.ntmps153
   go_wp2_with fail
   refine (HPr.out _).mono ?_
   rintro e w1 ⟨rfl, rfl⟩
   go_wp2_with fail
   refine (HCu.out _ HM.out).mono ?_
   rintro e w2 ⟨rfl, hb2⟩
   replace hb1 := hb1.step hb2
   go_wp2_with fail
   refine (HW.out _).mono ?_
   rintro e w3 ⟨rfl, hb3⟩
   replace hb1 := hb1.step hb3
   go_wp2_with fail
   refine (HRi.out _).mono ?_
   rintro e w5 ⟨rfl, rfl⟩
   go_wp2_with (refine wpList_store_blk hb1 rfl _ _ _ (by rfl) _ (by rfl) (by rfl) (by repeat first | with_reducible first | exact hb1 | apply Blk.alloc | apply Blk.drew | refine Blk.far ?_ (by simp <;> omega) _ | refine Blk.turn ?_ ‹_› (by omega)) (by rfl) (by kernel_rfl) (by simp [Value.oneCell']) ?_; intro wt hb1n ht)
   refine ret_blk2 rfl hb1n rfl Tryz.underlying23 rfl (by kernel_rfl) rfl ?_
   exact ⟨rfl, by (repeat' first | (with_reducible first | exact .refl _ _ | assumption | apply balloc | apply Below.drew | apply bset | refine bstep ?_ ‹_› | refine bturn ?_ ‹_› ?_) | go_size)⟩
 · have HP := Lib.hid (fun w => digits_lit s3 hp2 w)
   clear hp2
   go_enter Tryz.func153, Tryz.ntmps153
   go_wp2_with fail
   refine (HPr.out _).mono ?_
   rintro e w1 ⟨rfl, rfl⟩
   go_wp2_with fail
   refine (HCu.out _ HM.out).mono ?_
   rintro e w2 ⟨rfl, hb2⟩
   replace hb1 := hb1.step hb2
   go_wp2_with fail
   refine (HW.out _).mono ?_
   rintro e w3 ⟨rfl, hb3⟩
   replace hb1 := hb1.step hb3
   go_wp2_with fail
   refine (HP.out _).mono ?_
   rintro e w4 ⟨rfl, hb4⟩
   replace hb1 := hb1.step hb4
   go_wp2_with fail
   refine (HRi.out _).mono ?_
   rintro e w5 ⟨rfl, rfl⟩
   go_wp2_with (refine wpList_store_blk hb1 rfl _ _ _ (by rfl) _ (by rfl) (by rfl) (by repeat first | with_reducible first | exact hb1 | apply Blk.alloc | apply Blk.drew | refine Blk.far ?_ (by simp <;> omega) _ | refine Blk.turn ?_ ‹_› (by omega)) (by rfl) (by kernel_rfl) (by simp [Value.oneCell']) ?_; intro wt hb1n ht)
   refine ret_blk2 rfl hb1n rfl Tryz.underlying23 rfl (by kernel_rfl) rfl ?_
   exact ⟨rfl, by (repeat' first | (with_reducible first | exact .refl _ _ | assumption | apply balloc | apply Below.drew | apply bset | refine bstep ?_ ‹_› | refine bturn ?_ ‹_› ?_) | go_size)⟩
set_option maxHeartbeats 2000000 in
theorem parse_Et {s r wh pa pt : ByteArray} {minus dot : Bool} (H : CutUp s r wh pa pt minus dot) (hw : digB wh = true) (hp : dot = false ∨ dot = true ∧ digB pa = true) (hz : 1 < wh.size) (hz2 : ¬ (wh[0]'(by omega)).toNat = 48) (hl : pt.size ≤ 6) (hl2 : 12 < wh.size) (m : Int) (w : World) (hm : w.cell? ⟨5, 0, none⟩ = some (.int .i64 m)) :
   Calls Tryz.prog 153 #[.string s] w fun e w' => e = .returned (.tuple #[.agg #[.int .i64 (0), .int .i64 (0)], .int .i64 (3)]) ∧ Below w.heap.size w w' := by
 have hb1 := Blk.new w 23 #[.int .i64 0, .int .i64 0]
 have hm2 : (w.alloc (.cells #[.int .i64 0, .int .i64 0] 23)).cell? ⟨5, 0, none⟩ = some (.int .i64 m) := by exact (World.cell?_alloc_some w _ _ (by rw [hm]; rfl)).trans hm
 have HM := Lib.hid hm2
 have HPr := Lib.hid (fun w => prefix_lit s r minus w H.h1 H.h2)
 have HCu := Lib.hid (fun w hm => cut_lit r wh pa dot m w H.s1 hm H.h3)
 have s2 := H.s2
 have s3 := H.s3
 have s4 := H.s4
 have HRi := Lib.hid (fun w => right_lit pa pt w (by omega) H.h4)
 have HW := Lib.hid (fun w => digits_lit s2 hw w)
 have hz1 : (1 : Int) < (wh.size : Int) := by omega
 have hz3 : ¬ (((wh[0]'(by omega)).toNat : Nat) : Int) = 48 := by omega
 have hl1 : ¬ (6 : Int) < (pt.size : Int) := by omega
 have hl3 : (12 : Int) < (wh.size : Int) := by omega
 clear hm hm2 H hw hz2
 rcases hp with rfl | ⟨rfl, hp2⟩
 · go_enter Tryz.func153, Tryz.ntmps153
   go_wp2_with fail
   refine (HPr.out _).mono ?_
   rintro e w1 ⟨rfl, rfl⟩
   go_wp2_with fail
   refine (HCu.out _ HM.out).mono ?_
   rintro e w2 ⟨rfl, hb2⟩
   replace hb1 := hb1.step hb2
   go_wp2_with fail
   refine (HW.out _).mono ?_
   rintro e w3 ⟨rfl, hb3⟩
   replace hb1 := hb1.step hb3
   go_wp2_with fail
   refine (HRi.out _).mono ?_
   rintro e w5 ⟨rfl, rfl⟩
   go_wp2_with (refine wpList_store_blk hb1 rfl _ _ _ (by rfl) _ (by rfl) (by rfl) (by repeat first | with_reducible first | exact hb1 | apply Blk.alloc | apply Blk.drew | refine Blk.far ?_ (by simp <;> omega) _ | refine Blk.turn ?_ ‹_› (by omega)) (by rfl) (by kernel_rfl) (by simp [Value.oneCell']) ?_; intro wt hb1n ht)
   refine ret_blk2 rfl hb1n rfl Tryz.underlying23 rfl (by kernel_rfl) rfl ?_
   exact ⟨rfl, by (repeat' first | (with_reducible first | exact .refl _ _ | assumption | apply balloc | apply Below.drew | apply bset | refine bstep ?_ ‹_› | refine bturn ?_ ‹_› ?_) | go_size)⟩
 · have HP := Lib.hid (fun w => digits_lit s3 hp2 w)
   clear hp2
   go_enter Tryz.func153, Tryz.ntmps153
   go_wp2_with fail
   refine (HPr.out _).mono ?_
   rintro e w1 ⟨rfl, rfl⟩
   go_wp2_with fail
   refine (HCu.out _ HM.out).mono ?_
   rintro e w2 ⟨rfl, hb2⟩
   replace hb1 := hb1.step hb2
   go_wp2_with fail
   refine (HW.out _).mono ?_
   rintro e w3 ⟨rfl, hb3⟩
   replace hb1 := hb1.step hb3
   go_wp2_with fail
   refine (HP.out _).mono ?_
   rintro e w4 ⟨rfl, hb4⟩
   replace hb1 := hb1.step hb4
   go_wp2_with fail
   refine (HRi.out _).mono ?_
   rintro e w5 ⟨rfl, rfl⟩
   go_wp2_with (refine wpList_store_blk hb1 rfl _ _ _ (by rfl) _ (by rfl) (by rfl) (by repeat first | with_reducible first | exact hb1 | apply Blk.alloc | apply Blk.drew | refine Blk.far ?_ (by simp <;> omega) _ | refine Blk.turn ?_ ‹_› (by omega)) (by rfl) (by kernel_rfl) (by simp [Value.oneCell']) ?_; intro wt hb1n ht)
   refine ret_blk2 rfl hb1n rfl Tryz.underlying23 rfl (by kernel_rfl) rfl ?_
   exact ⟨rfl, by (repeat' first | (with_reducible first | exact .refl _ _ | assumption | apply balloc | apply Below.drew | apply bset | refine bstep ?_ ‹_› | refine bturn ?_ ‹_› ?_) | go_size)⟩
set_option maxHeartbeats 2000000 in
theorem parse_Ft {s r wh pa pt : ByteArray} {minus dot : Bool} (H : CutUp s r wh pa pt minus dot) (hw : digB wh = true) (hp : dot = false ∨ dot = true ∧ digB pa = true) (hz : 1 < wh.size) (hz2 : ¬ (wh[0]'(by omega)).toNat = 48) (hl : pt.size ≤ 6) (hl2 : wh.size ≤ 12) (u : Nat) (hu : Lib.parseUintB 64 (wh ++ pt).data.toList = .ok u) (hu64 : u < 18446744073709551616) (m : Int) (w : World) (hm : w.cell? ⟨5, 0, none⟩ = some (.int .i64 m)) :
   Calls Tryz.prog 153 #[.string s] w fun e w' => e = .returned (.tuple #[.agg #[.int .i64 ((decS pt.size u minus).n), .int .i64 ((decS pt.size u minus).s)], .int .i64 ((decS pt.size u minus).e)]) ∧ Below w.heap.size w w' := by
 have hb1 := Blk.new w 23 #[.int .i64 0, .int .i64 0]
 have hm2 : (w.alloc (.cells #[.int .i64 0, .int .i64 0] 23)).cell? ⟨5, 0, none⟩ = some (.int .i64 m) := by exact (World.cell?_alloc_some w _ _ (by rw [hm]; rfl)).trans hm
 have HM := Lib.hid hm2
 have HPr := Lib.hid (fun w => prefix_lit s r minus w H.h1 H.h2)
 have HCu := Lib.hid (fun w hm => cut_lit r wh pa dot m w H.s1 hm H.h3)
 have s2 := H.s2
 have s3 := H.s3
 have s4 := H.s4
 have HRi := Lib.hid (fun w => right_lit pa pt w (by omega) H.h4)
 have HW := Lib.hid (fun w => digits_lit s2 hw w)
 have hz1 : (1 : Int) < (wh.size : Int) := by omega
 have hz3 : ¬ (((wh[0]'(by omega)).toNat : Nat) : Int) = 48 := by omega
 have hl1 : ¬ (6 : Int) < (pt.size : Int) := by omega
 have hl3 : ¬ (12 : Int) < (wh.size : Int) := by omega
 have HU := Lib.hid (fun w => uint_lit (wh ++ pt) u w (by rw [ByteArray.size_append]; omega) hu)
 have HDc := Lib.hid (fun w => dec_any (u : Int) (pt.size : Int) minus (by omega) (by omega) (by omega) (by omega) w)
 simp only [Int.toNat_natCast] at HDc
 clear hm hm2 H hw hz2 hu
 rcases hp with rfl | ⟨rfl, hp2⟩
 · go_enter Tryz.func153, Tryz.ntmps153
   go_wp2_with fail
   refine (HPr.out _).mono ?_
   rintro e w1 ⟨rfl, rfl⟩
   go_wp2_with fail
   refine (HCu.out _ HM.out).mono ?_
   rintro e w2 ⟨rfl, hb2⟩
   replace hb1 := hb1.step hb2
   go_wp2_with fail
   refine (HW.out _).mono ?_
   rintro e w3 ⟨rfl, hb3⟩
   replace hb1 := hb1.step hb3
   go_wp2_with fail
   refine (HRi.out _).mono ?_
   rintro e w5 ⟨rfl, rfl⟩
   go_wp2_with fail
   refine (HU.out _).mono ?_
   rintro e w6 ⟨rfl, hb6⟩
   replace hb1 := hb1.step hb6
   go_wp2_with fail
   refine (HDc.out _).mono ?_
   rintro e w7 ⟨rfl, hb7⟩
   replace hb1 := hb1.step hb7
   go_wp2_with (refine wpList_store_blk hb1 rfl _ _ _ (by rfl) _ (by rfl) (by rfl) (by repeat first | with_reducible first | exact hb1 | apply Blk.alloc | apply Blk.drew | refine Blk.far ?_ (by simp <;> omega) _ | refine Blk.turn ?_ ‹_› (by omega)) (by rfl) (by kernel_rfl) (by simp [Value.oneCell']) ?_; intro wt hb1n ht)
   refine ret_blk2 rfl hb1n rfl Tryz.underlying23 rfl (by kernel_rfl) rfl ?_
   exact ⟨rfl, by (repeat' first | (with_reducible first | exact .refl _ _ | assumption | apply balloc | apply Below.drew | apply bset | refine bstep ?_ ‹_› | refine bturn ?_ ‹_› ?_) | go_size)⟩
 · have HP := Lib.hid (fun w => digits_lit s3 hp2 w)
   clear hp2
   go_enter Tryz.func153, Tryz.ntmps153
   go_wp2_with fail
   refine (HPr.out _).mono ?_
   rintro e w1 ⟨rfl, rfl⟩
   go_wp2_with fail
   refine (HCu.out _ HM.out).mono ?_
   rintro e w2 ⟨rfl, hb2⟩
   replace hb1 := hb1.step hb2
   go_wp2_with fail
   refine (HW.out _).mono ?_
   rintro e w3 ⟨rfl, hb3⟩
   replace hb1 := hb1.step hb3
   go_wp2_with fail
   refine (HP.out _).mono ?_
   rintro e w4 ⟨rfl, hb4⟩
   replace hb1 := hb1.step hb4
   go_wp2_with fail
   refine (HRi.out _).mono ?_
   rintro e w5 ⟨rfl, rfl⟩
   go_wp2_with fail
   refine (HU.out _).mono ?_
   rintro e w6 ⟨rfl, hb6⟩
   replace hb1 := hb1.step hb6
   go_wp2_with fail
   refine (HDc.out _).mono ?_
   rintro e w7 ⟨rfl, hb7⟩
   replace hb1 := hb1.step hb7
   go_wp2_with (refine wpList_store_blk hb1 rfl _ _ _ (by rfl) _ (by rfl) (by rfl) (by repeat first | with_reducible first | exact hb1 | apply Blk.alloc | apply Blk.drew | refine Blk.far ?_ (by simp <;> omega) _ | refine Blk.turn ?_ ‹_› (by omega)) (by rfl) (by kernel_rfl) (by simp [Value.oneCell']) ?_; intro wt hb1n ht)
   refine ret_blk2 rfl hb1n rfl Tryz.underlying23 rfl (by kernel_rfl) rfl ?_
   exact ⟨rfl, by (repeat' first | (with_reducible first | exact .refl _ _ | assumption | apply balloc | apply Below.drew | apply bset | refine bstep ?_ ‹_› | refine bturn ?_ ‹_› ?_) | go_size)⟩
end Go.Proofs.YtapilekangmcoaaGreatDoor
namespace Go.Proofs.YtapilekangmcoaaGreatDoor
open Go.RowKit
open Go.Lib hiding intOf
attribute [local go_sem high] run_dec_eql run_dec_neq
theorem repeat48 : ∀ c : Nat, repeatL [48] c = List.replicate c 48
 | 0 => rfl
 | c + 1 => by
   rw [List.replicate_succ, ← repeat48 c]
   rfl
theorem repeat_lit (c : Nat) (ci : Int) (R : ByteArray) (hc : c ≤ 100) (hci : (c : Int) = ci) (hR : ⟨(List.replicate c (48 : UInt8)).toArray⟩ = R) (w : World) :
   Calls Tryz.prog 166 #[.string ⟨#[48]⟩, .int .i64 ci] w fun e w' => e = .returned (.string R) ∧ Below w.heap.size w w' := by
 subst hci
 refine (Tryz.strings_Repeat ⟨#[48]⟩ c w (by omega) (by show 1 * c ≤ _; omega)).mono ?_
 rintro e w' ⟨rfl, hb⟩
 have : repeatL (⟨#[48]⟩ : ByteArray).data.toList c = List.replicate c 48 := repeat48 c
 rw [this, hR]
 exact ⟨rfl, hb⟩
theorem fmt_nat (N : Nat) (Ni : Int) (hNi : (N : Int) = Ni) (D : ByteArray) (hN : N < 18446744073709551616) (hD : ⟨(decDigits N).toArray⟩ = D) (w : World) (htab : Lib.TabIs Tryz.prog w "internal/strconv.uint64pow10" .u64 Lib.pow10Tab) :
   Calls Tryz.prog 165 #[.int .u64 Ni, .int .i64 10] w fun e w' => e = .returned (.string D) ∧ Below w.heap.size w w' := by
 subst hNi; subst hD
 exact fmt_any N hN w htab
theorem size_nat (n s Ni : Int) (h0 : -999999999999 ≤ n) (h1 : n ≤ 999999999999) (hNi : mag n = Ni) (w : World) :
   Calls Tryz.prog 130 #[.agg #[.int .i64 n, .int .i64 s]] w fun e w' => e = .returned (.int .u64 Ni) ∧ Below w.heap.size w w' := by
 subst hNi
 refine (size_any n s h0 h1 w).mono ?_
 rintro e w' ⟨rfl, rfl⟩
 exact ⟨rfl, by (repeat' first | (with_reducible first | exact .refl _ _ | assumption | apply balloc | apply Below.drew | apply bset | refine bstep ?_ ‹_› | refine bturn ?_ ‹_› ?_) | go_size)⟩
theorem text_form (n s : Int) (hn : I64 n) (hs : I64 s) (hf : ¬ soundS n s = true) (w : World) :
   Calls Tryz.prog 134 #[.agg #[.int .i64 n, .int .i64 s]] w fun e w' => e = .returned (.tuple #[.string ⟨#[]⟩, .int .i64 2]) ∧ Below w.heap.size w w' := by
 have HN : Hid (I64 n ∧ I64 s) := ⟨hn, hs⟩
 clear hn hs
 go_enter Tryz.func134, Tryz.ntmps134
 go_wp2_with fail
 refine (all_1 n s HN.out.1 HN.out.2 _ _ 23 _ (Blk.new' _ _ _ (by simp))).mono ?_
 rintro e w1 ⟨rfl, hb⟩
 rw [if_neg hf]
 clear hf
 go_wp2
 go_returns
 exact ⟨rfl, by (repeat' first | (with_reducible first | exact .refl _ _ | assumption | apply balloc | apply Below.drew | apply bset | refine bstep ?_ ‹_› | refine bturn ?_ ‹_› ?_) | go_size)⟩
set_option maxHeartbeats 2000000 in
theorem text_whole (n : Int) (N : Nat) (hn : I64 n) (b3 : -999999999999 ≤ n) (b4 : n ≤ 999999999999) (hf : soundS n 0 = true) (hN : mag n = (N : Int)) (T : ByteArray) (hT : ⟨(textS (decide (n < 0)) N 0).toArray⟩ = T) (w : World) (htab : Lib.TabIs Tryz.prog w "internal/strconv.uint64pow10" .u64 Lib.pow10Tab) :
   Calls Tryz.prog 134 #[.agg #[.int .i64 n, .int .i64 0]] w fun e w' => e = .returned (.tuple #[.string T, .int .i64 0]) ∧ Below w.heap.size w w' := by
 have hm := mag_bd b3 b4
 have hb0 := Blk.new w 23 #[.int .i64 n, .int .i64 0]
 have HN : Hid (I64 n) := hn
 have HT := Lib.hid (Lib.tabBelow_of_tabIs htab)
 obtain ⟨D, hD⟩ : ∃ D : ByteArray, ⟨(decDigits N).toArray⟩ = D := ⟨_, rfl⟩
 have hL : D.size ≤ 12 := by
   rw [← hD]
   show (decDigits N).toArray.size ≤ 12
   rw [List.size_toArray, decDigits_length]
   exact nDigits_le (by decide) (by omega)
 have HS := Lib.hid (fun w => size_nat n 0 (N : Int) b3 b4 hN w)
 have HF := Lib.hid (fun w h => fmt_nat N (N : Int) rfl D (by omega) hD w h)
 have HD := Lib.hid hD
 have HTT := Lib.hid hT
 clear htab hn hN hD hT hm
 by_cases hneg : n < 0
 · have e : textS (decide (n < 0)) N 0 = 45 :: decDigits N := by unfold textS textU; rw [decide_eq_true hneg]; rfl
   have E := Lib.hid e
   clear e
   go_enter Tryz.func134, Tryz.ntmps134
   go_wp2_with fail
   refine (all_1 n 0 HN.out (by unfold I64; omega) _ _ 23 _ (Blk.new' _ _ _ (by simp))).mono ?_
   rintro e w1 ⟨rfl, hb⟩
   replace hb0 := (hb0.alloc _).step hb
   rw [if_pos hf]
   clear hf
   have c0 := hb0.cell 0
   have c1 := hb0.cell 1
   simp at c0 c1
   go_wp2_with fail
   refine (HS.out _).mono ?_
   rintro e w2 ⟨rfl, hb2⟩
   go_wp2_with fail
   refine (HF.out _ (HT.out _ (by (repeat' first | (with_reducible first | exact .refl _ _ | assumption | apply balloc | apply Below.drew | apply bset | refine bstep ?_ ‹_› | refine bturn ?_ ‹_› ?_) | go_size)))).mono ?_
   rintro e w3 ⟨rfl, hb3⟩
   replace hb0 := (hb0.step hb2).step hb3
   have d0 := hb0.cell 0
   have d1 := hb0.cell 1
   simp at d0 d1
   clear c0 c1
   go_wp2
   go_returns
   exact ⟨by
     rw [← HTT.out, E.out, ← HD.out]
     rw [show (⟨(45 :: decDigits N).toArray⟩ : ByteArray) = ⟨#[45]⟩ ++ ⟨(decDigits N).toArray⟩ from by apply ByteArray.ext; apply Array.toList_inj.1; simp]
     rfl, by (repeat' first | (with_reducible first | exact .refl _ _ | assumption | apply balloc | apply Below.drew | apply bset | refine bstep ?_ ‹_› | refine bturn ?_ ‹_› ?_) | go_size)⟩
 · have e : textS (decide (n < 0)) N 0 = decDigits N := by unfold textS textU; rw [decide_eq_false hneg]; rfl
   have E := Lib.hid e
   clear e
   go_enter Tryz.func134, Tryz.ntmps134
   go_wp2_with fail
   refine (all_1 n 0 HN.out (by unfold I64; omega) _ _ 23 _ (Blk.new' _ _ _ (by simp))).mono ?_
   rintro e w1 ⟨rfl, hb⟩
   replace hb0 := (hb0.alloc _).step hb
   rw [if_pos hf]
   clear hf
   have c0 := hb0.cell 0
   have c1 := hb0.cell 1
   simp at c0 c1
   go_wp2_with fail
   refine (HS.out _).mono ?_
   rintro e w2 ⟨rfl, hb2⟩
   go_wp2_with fail
   refine (HF.out _ (HT.out _ (by (repeat' first | (with_reducible first | exact .refl _ _ | assumption | apply balloc | apply Below.drew | apply bset | refine bstep ?_ ‹_› | refine bturn ?_ ‹_› ?_) | go_size)))).mono ?_
   rintro e w3 ⟨rfl, hb3⟩
   replace hb0 := (hb0.step hb2).step hb3
   have d0 := hb0.cell 0
   have d1 := hb0.cell 1
   simp at d0 d1
   clear c0 c1
   go_wp2
   go_returns
   exact ⟨by rw [← HTT.out, E.out, HD.out]; rfl, by (repeat' first | (with_reducible first | exact .refl _ _ | assumption | apply balloc | apply Below.drew | apply bset | refine bstep ?_ ‹_› | refine bturn ?_ ‹_› ?_) | go_size)⟩
set_option maxHeartbeats 2000000 in
theorem text_part (n : Int) (N sc : Nat) (hn : I64 n) (b3 : -999999999999 ≤ n) (b4 : n ≤ 999999999999) (hs0 : 0 < sc) (hs6 : sc ≤ 6) (hf : soundS n sc = true) (hN : mag n = (N : Int)) (T : ByteArray) (hT : ⟨(textS (decide (n < 0)) N sc).toArray⟩ = T) (w : World) (htab : Lib.TabIs Tryz.prog w "internal/strconv.uint64pow10" .u64 Lib.pow10Tab) :
   Calls Tryz.prog 134 #[.agg #[.int .i64 n, .int .i64 sc]] w fun e w' => e = .returned (.tuple #[.string T, .int .i64 0]) ∧ Below w.heap.size w w' := by
 have hm := mag_bd b3 b4
 have hb0 := Blk.new w 23 #[.int .i64 n, .int .i64 sc]
 have HN : Hid (I64 n ∧ I64 sc) := ⟨hn, by unfold I64; omega⟩
 have HT := Lib.hid (Lib.tabBelow_of_tabIs htab)
 obtain ⟨D, hD⟩ : ∃ D : ByteArray, ⟨(decDigits N).toArray⟩ = D := ⟨_, rfl⟩
 have hLe : D.size = nDigits N := by
   rw [← hD]
   show (decDigits N).toArray.size = _
   rw [List.size_toArray, decDigits_length]
 have hL : D.size ≤ 12 := by rw [hLe]; exact nDigits_le (by decide) (by omega)
 obtain ⟨R, hR⟩ : ∃ R : ByteArray, ⟨(List.replicate (sc + 1 - nDigits N) (48 : UInt8)).toArray⟩ = R := ⟨_, rfl⟩
 have hRL : R.size = sc + 1 - nDigits N := by rw [← hR]; show (List.replicate _ (48 : UInt8)).toArray.size = _; simp
 obtain ⟨P, hP⟩ : ∃ P : ByteArray, R ++ D = P := ⟨_, rfl⟩
 have hPM : P.size = max (nDigits N) (sc + 1) := by rw [← hP, ByteArray.size_append]; omega
 obtain ⟨q, hq⟩ : ∃ q : Nat, max (nDigits N) (sc + 1) - sc = q := ⟨_, rfl⟩
 have hPq : P.size = q + sc := by omega
 have hq12 : q ≤ 12 := by omega
 have hU : ((P.extract 0 q ++ ⟨#[46]⟩) ++ P.extract q P.size) = (⟨(textU N sc).toArray⟩ : ByteArray) := by
   apply ByteArray.ext
   apply Array.toList_inj.1
   have hPd : P.data.toList = List.replicate (sc + 1 - nDigits N) 48 ++ decDigits N := by rw [← hP, ← hR, ← hD]; simp
   rw [ByteArray.data_append, ByteArray.data_append, Array.toList_append, Array.toList_append, Lib.extract_from_zero, Lib.extract_to_end, hPd, ← hq]
   exact cut_text hs0
 have HS := Lib.hid (fun w => size_nat n sc (N : Int) b3 b4 hN w)
 have HF := Lib.hid (fun w h => fmt_nat N (N : Int) rfl D (by omega) hD w h)
 have HR := Lib.hid (fun w => repeat_lit (sc + 1 - nDigits N) ((sc + 1 - nDigits N : Nat) : Int) R (by omega) rfl hR w)
 have hmx : max (0 : Int) ((sc : Int) + 1 - (D.size : Int)) = ((sc + 1 - nDigits N : Nat) : Int) := by rw [hLe]; omega
 have HTT := Lib.hid hT
 have HP := Lib.hid hP
 have HU := Lib.hid hU
 have hR12 : R.size ≤ 12 := by omega
 have hP20 : P.size ≤ 20 := by omega
 have hPi : (P.size : Int) - (sc : Int) = (q : Int) := by omega
 have hq0 : (q : Int) ≤ (P.size : Int) := by omega
 have hq1 : (0 : Int) ≤ (q : Int) := by omega
 have hx1 : (P.extract 0 q).size ≤ 20 := by rw [ByteArray.size_extract]; omega
 have hx2 : (P.extract q P.size).size ≤ 20 := by rw [ByteArray.size_extract]; omega
 have hx3 : (P.extract 0 q ++ ⟨#[46]⟩).size ≤ 40 := by rw [ByteArray.size_append]; show (P.extract 0 q).size + 1 ≤ 40; omega
 generalize hcn : sc + 1 - nDigits N = cn at *
 clear htab hn hN hD hT hm hLe hR hRL hP hPM hq hU hcn hPq
 have ha1 : min q P.size ≤ 9223372036854775806 := by omega
 have ha2 : min q P.size + 1 + (P.size - q) ≤ 9223372036854775807 := by omega
 by_cases hneg : n < 0
 · have e : textS (decide (n < 0)) N sc = 45 :: textU N sc := by unfold textS; rw [decide_eq_true hneg]; rfl
   have E := Lib.hid e
   clear e
   go_enter Tryz.func134, Tryz.ntmps134
   go_wp2_with fail
   refine (all_1 n sc HN.out.1 HN.out.2 _ _ 23 _ (Blk.new' _ _ _ (by simp))).mono ?_
   rintro e w1 ⟨rfl, hb⟩
   replace hb0 := (hb0.alloc _).step hb
   rw [if_pos hf]
   clear hf
   have c0 := hb0.cell 0
   have c1 := hb0.cell 1
   simp at c0 c1
   go_wp2_with fail
   refine (HS.out _).mono ?_
   rintro e w2 ⟨rfl, hb2⟩
   go_wp2_with fail
   refine (HF.out _ (HT.out _ (by (repeat' first | (with_reducible first | exact .refl _ _ | assumption | apply balloc | apply Below.drew | apply bset | refine bstep ?_ ‹_› | refine bturn ?_ ‹_› ?_) | go_size)))).mono ?_
   rintro e w3 ⟨rfl, hb3⟩
   replace hb0 := (hb0.step hb2).step hb3
   have d0 := hb0.cell 0
   have d1 := hb0.cell 1
   simp at d0 d1
   clear c0 c1
   go_wp2_with fail
   refine (HR.out _).mono ?_
   rintro e w4 ⟨rfl, hb4⟩
   replace hb0 := hb0.step hb4
   have e0 := hb0.cell 0
   have e1 := hb0.cell 1
   simp at e0 e1
   clear d0 d1 hmx
   have hRD := HP.out
   have kP : IntKind.i64.wrap (q : Int) = (q : Int) := IntWalk.i64_in _ (by omega)
   go_wp2_with fail
   go_region
   clear kP hRD
   go_wp2_with fail
   go_returns
   exact ⟨by
     rw [← HTT.out, E.out]
     rw [show (⟨(45 :: textU N sc).toArray⟩ : ByteArray) = ⟨#[45]⟩ ++ ⟨(textU N sc).toArray⟩ from by apply ByteArray.ext; apply Array.toList_inj.1; simp]
     rw [← HU.out]
     rfl, by (repeat' first | (with_reducible first | exact .refl _ _ | assumption | apply balloc | apply Below.drew | apply bset | refine bstep ?_ ‹_› | refine bturn ?_ ‹_› ?_) | go_size)⟩
 · have e : textS (decide (n < 0)) N sc = textU N sc := by unfold textS; rw [decide_eq_false hneg]; rfl
   have E := Lib.hid e
   clear e
   go_enter Tryz.func134, Tryz.ntmps134
   go_wp2_with fail
   refine (all_1 n sc HN.out.1 HN.out.2 _ _ 23 _ (Blk.new' _ _ _ (by simp))).mono ?_
   rintro e w1 ⟨rfl, hb⟩
   replace hb0 := (hb0.alloc _).step hb
   rw [if_pos hf]
   clear hf
   have c0 := hb0.cell 0
   have c1 := hb0.cell 1
   simp at c0 c1
   go_wp2_with fail
   refine (HS.out _).mono ?_
   rintro e w2 ⟨rfl, hb2⟩
   go_wp2_with fail
   refine (HF.out _ (HT.out _ (by (repeat' first | (with_reducible first | exact .refl _ _ | assumption | apply balloc | apply Below.drew | apply bset | refine bstep ?_ ‹_› | refine bturn ?_ ‹_› ?_) | go_size)))).mono ?_
   rintro e w3 ⟨rfl, hb3⟩
   replace hb0 := (hb0.step hb2).step hb3
   have d0 := hb0.cell 0
   have d1 := hb0.cell 1
   simp at d0 d1
   clear c0 c1
   go_wp2_with fail
   refine (HR.out _).mono ?_
   rintro e w4 ⟨rfl, hb4⟩
   replace hb0 := hb0.step hb4
   have e0 := hb0.cell 0
   have e1 := hb0.cell 1
   simp at e0 e1
   clear d0 d1 hmx
   have hRD := HP.out
   have kP : IntKind.i64.wrap (q : Int) = (q : Int) := IntWalk.i64_in _ (by omega)
   go_wp2_with fail
   go_region
   clear kP hRD
   go_wp2_with fail
   go_returns
   exact ⟨by rw [← HTT.out, E.out, ← HU.out]; rfl, by (repeat' first | (with_reducible first | exact .refl _ _ | assumption | apply balloc | apply Below.drew | apply bset | refine bstep ?_ ‹_› | refine bturn ?_ ‹_› ?_) | go_size)⟩
/-- Text of a sound number. -/
theorem text_any (n s : Int) (N sc : Nat) (hn : I64 n) (hs : s = (sc : Int)) (hf : soundS n s = true) (hN : mag n = (N : Int)) (T : ByteArray) (hT : ⟨(textS (decide (n < 0)) N sc).toArray⟩ = T) (w : World) (htab : Lib.TabIs Tryz.prog w "internal/strconv.uint64pow10" .u64 Lib.pow10Tab) :
   Calls Tryz.prog 134 #[.agg #[.int .i64 n, .int .i64 s]] w fun e w' => e = .returned (.tuple #[.string T, .int .i64 0]) ∧ Below w.heap.size w w' := by
 subst hs
 obtain ⟨b1, b2, b3, b4, _⟩ := sound_bd hf
 by_cases h : sc = 0
 · subst h
   exact text_whole n N hn b3 b4 hf hN T hT w htab
 · exact text_part n N sc hn b3 b4 (by omega) (by omega) hf hN T hT w htab
end Go.Proofs.YtapilekangmcoaaGreatDoor
namespace Go.Proofs.YtapilekangmcoaaGreatDoor
open Go.RowKit
open Go.Lib hiding intOf
theorem indexc_at (c : UInt8) : ∀ (a r : List UInt8), (∀ b ∈ a, b ≠ c) → index (a ++ c :: r) [c] = a.length
 | [], r, _ => by unfold index; simp
 | b :: a, r, h => by
   have hb : ¬ c = b := fun e => h b (by simp) e.symm
   have hp : List.isPrefixOf [c] (b :: (a ++ c :: r)) = false := by simp [List.isPrefixOf, hb]
   have hm : ((a.length : Int) == -1) = false := by rw [beq_eq_false_iff_ne]; omega
   rw [List.cons_append, index, hp, indexc_at c a r fun x hx => h x (by simp [hx]), hm]
   simp
theorem indexc_no (c : UInt8) : ∀ (a : List UInt8), (∀ b ∈ a, b ≠ c) → index a [c] = -1
 | [], _ => rfl
 | b :: a, h => by
   have hb : ¬ c = b := fun e => h b (by simp) e.symm
   have hp : List.isPrefixOf [c] (b :: a) = false := by simp [List.isPrefixOf, hb]
   rw [index, hp, indexc_no c a fun x hx => h x (by simp [hx])]
   simp
theorem allDig_no {c : UInt8} (hc : ¬ (48 ≤ c.toNat ∧ c.toNat ≤ 57)) {l : List UInt8} (h : allDig l = true) : ∀ b ∈ l, b ≠ c := by
 intro b hb e
 subst e
 exact hc (of_decide_eq_true (List.all_eq_true.1 h _ hb))
theorem cut_at {a r : List UInt8} (h : ∀ b ∈ a, b ≠ 46) : Lib.cut (a ++ 46 :: r) [46] = (a, r, true) := by
 unfold Lib.cut
 rw [indexc_at 46 a r h, if_pos (by omega)]
 simp [List.drop_append]
theorem cut_no {a : List UInt8} (h : ∀ b ∈ a, b ≠ 46) : Lib.cut a [46] = (a, [], false) := by
 unfold Lib.cut
 rw [indexc_no 46 a h, if_neg (by omega)]
theorem prefix_hit (l : List UInt8) : Lib.hasPrefix (45 :: l) [45] = true ∧ Lib.trimPrefix (45 :: l) [45] = l := by
 have h : Lib.hasPrefix (45 :: l) [45] = true := by simp [Lib.hasPrefix]
 exact ⟨h, by unfold Lib.trimPrefix; rw [h]; rfl⟩
theorem prefix_miss {b : UInt8} {l : List UInt8} (hb : b ≠ 45) : Lib.hasPrefix (b :: l) [45] = false ∧ Lib.trimPrefix (b :: l) [45] = b :: l := by
 have hb' : ¬ (45 : UInt8) = b := fun e => hb e.symm
 have h : Lib.hasPrefix (b :: l) [45] = false := by simp [Lib.hasPrefix, List.isPrefixOf, hb']
 exact ⟨h, by unfold Lib.trimPrefix; rw [h]; rfl⟩
theorem decFrom_le : ∀ (l : List UInt8) (a n : Nat), decFrom a l = some n → a ≤ n
 | [], a, n, h => by cases h; exact Nat.le_refl _
 | b :: l, a, n, h => by
   rw [decFrom] at h
   cases hd : digitVal b with
   | none => rw [hd] at h; cases h
   | some d =>
     rw [hd] at h
     have := decFrom_le l _ n h
     omega
theorem uintM_of : ∀ (l : List UInt8) (a n : Nat), allDig l = true → decFrom a l = some n → n < 10000000000000000000 → parseUintM (2 ^ 64 - 1) a l = .ok n
 | [], a, n, _, h, _ => by cases h; rfl
 | b :: l, a, n, hd, h, hn => by
   unfold allDig at hd
   rw [List.all_cons, Bool.and_eq_true] at hd
   have hb := of_decide_eq_true hd.1
   rw [decFrom, digitVal, if_pos hb] at h
   have hle := decFrom_le l _ n h
   have h64 : (2 : Nat) ^ 64 - 1 = 18446744073709551615 := by decide
   rw [parseUintM, if_pos hb, if_neg (by omega), if_neg (by rw [h64]; omega)]
   exact uintM_of l _ n hd.2 h hn
theorem uintB_pd {k n : Nat} (hk : 0 < k) (h : n < 10 ^ k) (hn : n < 10000000000000000000) : Lib.parseUintB 64 (pd k n) = .ok n := by
 unfold Lib.parseUintB
 rw [if_neg (by intro e; have := congrArg List.length e; rw [pd_length] at this; simp at this; omega)]
 exact uintM_of _ 0 n (allDig_pd k n) (decFrom_pd k n h) hn
theorem low_nDigits (n : Nat) : n < 10 ∨ 10 ^ (nDigits n - 1) ≤ n := by
 induction n using Nat.strongRecOn with
 | _ n ih =>
   by_cases h : n < 10
   · exact .inl h
   · refine .inr ?_
     rw [nDigits_big h, Nat.add_sub_cancel]
     have hp := nDigits_pos (n / 10)
     rcases ih (n / 10) (by omega) with h2 | h2
     · rw [nDigits_small h2]; omega
     · obtain ⟨k, hk⟩ : ∃ k, nDigits (n / 10) = k + 1 := ⟨nDigits (n / 10) - 1, by omega⟩
       rw [hk] at h2 ⊢
       rw [Nat.add_sub_cancel] at h2
       rw [Nat.pow_succ]
       omega
/-- No leading nought. -/
theorem head_dec {n : Nat} (h : 1 < nDigits n) : ∃ d l, decDigits n = UInt8.ofNat (48 + d) :: l ∧ 1 ≤ d ∧ d ≤ 9 := by
 obtain ⟨k, hk⟩ : ∃ k, nDigits n = k + 1 := ⟨nDigits n - 1, by omega⟩
 have h1 := low_nDigits n
 have h2 := lt_pow_nDigits n
 rw [hk] at h1 h2
 rw [Nat.add_sub_cancel] at h1
 have h3 : 10 ^ k ≤ n := by
   rcases h1 with h1 | h1
   · rw [nDigits_small h1] at h; omega
   · exact h1
 have hp : 0 < 10 ^ k := Nat.pow_pos (by decide)
 have h4 : 1 ≤ n / 10 ^ k := (Nat.le_div_iff_mul_le hp).2 (by omega)
 have h5 : n / 10 ^ k < 10 := (Nat.div_lt_iff_lt_mul hp).2 (by rw [Nat.pow_succ] at h2; omega)
 refine ⟨n / 10 ^ k % 10, pd k n, ?_, by omega, by omega⟩
 rw [dec_pd, hk, pd_cons]
theorem head_any (n : Nat) : ∃ d l, decDigits n = UInt8.ofNat (48 + d) :: l ∧ d ≤ 9 := by
 obtain ⟨k, hk⟩ : ∃ k, nDigits n = k + 1 := ⟨nDigits n - 1, by have := nDigits_pos n; omega⟩
 exact ⟨n / 10 ^ k % 10, pd k n, by rw [dec_pd, hk, pd_cons], by omega⟩
theorem digB_of {s : ByteArray} (hne : s.data.toList ≠ []) (h : allDig s.data.toList = true) : digB s = true := by
 unfold digB
 rw [trim_digits, h, Lib.toList_data]
 cases hc : s.data.toList with
 | nil => exact absurd hc hne
 | cons a t => rfl
/-- How a written number is cut up. -/
theorem cut_of {minus : Bool} {N sc : Nat} (hN : N < 1000000000000) (hs : sc ≤ 6) (hz : sc = 0 ∨ ¬ N % 10 = 0) (T : ByteArray) (hT : ⟨(textS minus N sc).toArray⟩ = T) :
   ∃ r wh pa pt : ByteArray, ∃ dot : Bool, CutUp T r wh pa pt minus dot ∧ digB wh = true ∧ (dot = false ∨ dot = true ∧ digB pa = true) ∧ wh.size ≤ 12 ∧ pt.size = sc ∧ Lib.parseUintB 64 (wh ++ pt).data.toList = .ok N ∧ (¬ 1 < wh.size ∨ ∃ h : 1 < wh.size, ¬ (wh[0]'(by omega)).toNat = 48) := by
 subst hT
 have hW : N / 10 ^ sc < 10 ^ 12 := Nat.lt_of_le_of_lt (Nat.div_le_self _ _) (by omega)
 have hWd := nDigits_le (by decide) hW
 have hdw : allDig (decDigits (N / 10 ^ sc)) = true := by rw [dec_pd]; exact allDig_pd _ _
 have hne : decDigits (N / 10 ^ sc) ≠ [] := by
   intro e
   have := congrArg List.length e
   rw [decDigits_length] at this
   have h2 := nDigits_pos (N / 10 ^ sc)
   simp at this
   omega
 have h46 : ∀ b ∈ decDigits (N / 10 ^ sc), b ≠ 46 := allDig_no (by decide) hdw
 have hpa : (if sc = 0 then [] else pd sc N).length = sc := by
   split
   · rename_i h; rw [h]; rfl
   · exact pd_length _ _
 have hcut : Lib.cut (textU N sc) [46] = (decDigits (N / 10 ^ sc), (if sc = 0 then [] else pd sc N), decide (¬ sc = 0)) := by
   unfold textU
   by_cases h0 : sc = 0
   · subst h0
     simp only [if_true, Nat.pow_zero, Nat.div_one] at h46 ⊢
     rw [cut_no h46]
     rfl
   · rw [if_neg h0, if_neg h0, cut_at h46, decide_eq_true h0]
 have htrim : Lib.trimRightB (if sc = 0 then [] else pd sc N) 48 = (if sc = 0 then [] else pd sc N) := by
   by_cases h0 : sc = 0
   · rw [if_pos h0]; rfl
   · rw [if_neg h0]
     obtain ⟨k, hk⟩ : ∃ k, sc = k + 1 := ⟨sc - 1, by omega⟩
     have hlast : ¬ UInt8.ofNat (48 + N % 10) = 48 := by
       intro e
       have := congrArg UInt8.toNat e
       rw [dig_ofNat (by omega)] at this
       have h2 : (48 : UInt8).toNat = 48 := rfl
       omega
     unfold Lib.trimRightB
     rw [hk, pd, List.reverse_append, List.reverse_singleton, List.singleton_append, List.dropWhile_cons]
     have : (UInt8.ofNat (48 + N % 10) == 48) = false := by rw [beq_eq_false_iff_ne]; exact hlast
     rw [this]
     simp
 have hpre : Lib.hasPrefix (textS minus N sc) [45] = minus ∧ Lib.trimPrefix (textS minus N sc) [45] = textU N sc := by
   unfold textS
   cases minus with
   | true => exact prefix_hit _
   | false =>
     obtain ⟨d, l, hd, hd9⟩ := head_any (N / 10 ^ sc)
     have hb : UInt8.ofNat (48 + d) ≠ 45 := by
       intro e
       have := congrArg UInt8.toNat e
       rw [dig_ofNat (by omega)] at this
       have h2 : (45 : UInt8).toNat = 45 := rfl
       omega
     have hu : ∃ l', textU N sc = UInt8.ofNat (48 + d) :: l' := by
       unfold textU
       by_cases h0 : sc = 0
       · subst h0
         simp only [Nat.pow_zero, Nat.div_one] at hd
         exact ⟨l, by rw [if_pos rfl, hd]⟩
       · exact ⟨_, by rw [if_neg h0, hd, List.cons_append]⟩
     obtain ⟨l', hl'⟩ := hu
     simp only [Bool.false_eq_true, if_false]
     rw [hl']
     exact prefix_miss hb
 have hlenU : (textU N sc).length ≤ 20 := by
   unfold textU
   split
   · rename_i h0; subst h0; simp only [Nat.pow_zero, Nat.div_one] at hWd; rw [decDigits_length]; omega
   · rw [List.length_append, decDigits_length, List.length_cons, pd_length]; omega
 refine ⟨⟨(textU N sc).toArray⟩, ⟨(decDigits (N / 10 ^ sc)).toArray⟩, ⟨(if sc = 0 then [] else pd sc N).toArray⟩, ⟨(if sc = 0 then [] else pd sc N).toArray⟩, decide (¬ sc = 0), ⟨hpre.2, hpre.1, hcut, htrim, ?_, ?_, ?_, ?_⟩, digB_of hne hdw, ?_, ?_, ?_, ?_, ?_⟩
 · show (textU N sc).toArray.size < _; rw [List.size_toArray]; omega
 · show (decDigits (N / 10 ^ sc)).toArray.size ≤ _; rw [List.size_toArray, decDigits_length]; omega
 · show (if sc = 0 then [] else pd sc N).toArray.size ≤ _; rw [List.size_toArray, hpa]; omega
 · show (if sc = 0 then [] else pd sc N).toArray.size ≤ _; rw [List.size_toArray, hpa]; omega
 · by_cases h0 : sc = 0
   · exact .inl (decide_eq_false (by simpa using h0))
   · refine .inr ⟨decide_eq_true h0, digB_of ?_ ?_⟩
     · show (if sc = 0 then [] else pd sc N) ≠ []
       rw [if_neg h0]
       intro e
       have := congrArg List.length e
       rw [pd_length] at this
       simp at this
       omega
     · show allDig (if sc = 0 then [] else pd sc N) = true
       rw [if_neg h0]
       exact allDig_pd _ _
 · show (decDigits (N / 10 ^ sc)).toArray.size ≤ 12; rw [List.size_toArray, decDigits_length]; exact hWd
 · show (if sc = 0 then [] else pd sc N).toArray.size = sc; rw [List.size_toArray, hpa]
 · have e : ((⟨(decDigits (N / 10 ^ sc)).toArray⟩ : ByteArray) ++ ⟨(if sc = 0 then [] else pd sc N).toArray⟩).data.toList = pd (nDigits (N / 10 ^ sc) + sc) N := by
     rw [ByteArray.data_append, Array.toList_append, pd_add, ← dec_pd]
     congr 1
     show (if sc = 0 then [] else pd sc N) = pd sc N
     split
     · rename_i h0; rw [h0]; rfl
     · rfl
   rw [e]
   refine uintB_pd (by have := nDigits_pos (N / 10 ^ sc); omega) ?_ (by omega)
   have h2 := nDigits_div (N := N) (sc := sc)
   rw [h2]
   exact Nat.lt_of_lt_of_le (lt_pow_nDigits N) (Nat.pow_le_pow_right (by decide) (Nat.le_max_left _ _))
 · by_cases h1 : 1 < nDigits (N / 10 ^ sc)
   · right
     have hsz : 1 < (⟨(decDigits (N / 10 ^ sc)).toArray⟩ : ByteArray).size := by
       show 1 < (decDigits (N / 10 ^ sc)).toArray.size; rw [List.size_toArray, decDigits_length]; exact h1
     refine ⟨hsz, ?_⟩
     obtain ⟨d, l, hd, h1d, h9d⟩ := head_dec h1
     have hb := Lib.data_getElem? (⟨(decDigits (N / 10 ^ sc)).toArray⟩ : ByteArray) 0 (by omega)
     have hb2 : (decDigits (N / 10 ^ sc))[0]? = some (UInt8.ofNat (48 + d)) := by rw [hd]; rfl
     have hb3 : (⟨(decDigits (N / 10 ^ sc)).toArray⟩ : ByteArray)[0] = UInt8.ofNat (48 + d) := Option.some.inj (hb.symm.trans hb2)
     rw [hb3, dig_ofNat (by omega)]
     omega
   · left
     show ¬ 1 < (decDigits (N / 10 ^ sc)).toArray.size
     rw [List.size_toArray, decDigits_length]
     exact h1
/-- A number's shortest form, out of itself. -/
theorem dec_self {n s : Int} {N sc : Nat} (h : soundS n s = true) (hs : s = (sc : Int)) (hN : mag n = (N : Int)) : decS sc N (decide (n < 0)) = ⟨n, s, 0⟩ := by
 obtain ⟨b1, b2, b3, b4, _⟩ := sound_bd h
 have hm := make_ok (n := n) (s := s) ⟨b1, b2, b3, b4⟩
 unfold soundS at h
 rw [hm, hN, show s.toNat = sc by omega] at h
 simp only [Bool.and_eq_true, beq_iff_eq] at h
 obtain ⟨h1, h2, h3⟩ := h
 cases hd : decS sc N (decide (n < 0)) with
 | mk a b c =>
   rw [hd] at h1 h2 h3
   simp only at h1 h2 h3
   rw [h1, h2, h3]
theorem parse_back (n s : Int) (N sc : Nat) (h : soundS n s = true) (hs : s = (sc : Int)) (hN : mag n = (N : Int)) (T : ByteArray) (hT : ⟨(textS (decide (n < 0)) N sc).toArray⟩ = T) (m : Int) (w : World) (hm : w.cell? ⟨5, 0, none⟩ = some (.int .i64 m)) :
   Calls Tryz.prog 153 #[.string T] w fun e w' => e = .returned (.tuple #[.agg #[.int .i64 n, .int .i64 s], .int .i64 0]) ∧ Below w.heap.size w w' := by
 obtain ⟨b1, b2, b3, b4, b5⟩ := sound_bd h
 have hmb := mag_bd b3 b4
 have hmod : sc = 0 ∨ ¬ N % 10 = 0 := by
   rcases b5 with b5 | b5
   · exact .inl (by omega)
   · refine .inr ?_
     unfold mag at hN
     split at hN <;> omega
 obtain ⟨r, wh, pa, pt, dot, H, hw, hp, h12, hpt, hu, hz⟩ := cut_of (minus := decide (n < 0)) (by omega) (by omega) hmod T hT
 have hd := dec_self h hs hN
 rw [← hpt] at hd
 rcases hz with hz | ⟨hz, hz2⟩
 · have := parse_Fo H hw hp hz (by omega) h12 N hu (by omega) m w hm
   rw [hd] at this
   exact this
 · have := parse_Ft H hw hp hz hz2 (by omega) h12 N hu (by omega) m w hm
   rw [hd] at this
   exact this
end Go.Proofs.YtapilekangmcoaaGreatDoor
