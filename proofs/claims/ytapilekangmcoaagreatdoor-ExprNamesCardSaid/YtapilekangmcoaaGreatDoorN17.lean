/- The walks of package days: pad, Text. The walks of the reference of package days: Number, padded, Text. -/
import Derived.Lib.AppendIntMem
import Derived.Test.YtapilekangmcoaaGreatDoorN10
import Derived.Test.YtapilekangmcoaaGreatDoorN16
import Derived.Test.YtapilekangmcoaaGreatDoorN2
set_option linter.unusedVariables false
set_option linter.unusedSimpArgs false
set_option maxHeartbeats 8000000
set_option maxRecDepth 100000
namespace Go.Proofs.YtapilekangmcoaaGreatDoor.Days
open Go.RowKit Go.Lib
theorem itoa_nat (n : Nat) (D : ByteArray) (hn : n ≤ 9999) (hD : ⟨(decDigits n).toArray⟩ = D) (w : World) (htab : Lib.TabIs Tryz.prog w "internal/strconv.uint64pow10" .u64 Lib.pow10Tab) :
   Calls Tryz.prog 196 #[.int .i64 (n : Int)] w fun e w' => e = .returned (.string D) ∧ Below w.heap.size w w' := by
 refine (Tryz.strconv_Itoa (n : Int) (by omega) (by omega) w htab).mono ?_
 rintro e w' ⟨rfl, k, os, rfl⟩
 have : itoa (n : Int) = decDigits n := by unfold itoa; rw [if_neg (by omega), Int.toNat_natCast]
 rw [this, hD]
 exact ⟨rfl, Lib.below_grow _ w (Nat.le_refl _) k os⟩
theorem repeat48 : ∀ c : Nat, repeatL [48] c = List.replicate c 48
 | 0 => rfl
 | c + 1 => by
   rw [List.replicate_succ, ← repeat48 c]
   rfl
theorem repeat_lit (c : Nat) (ci : Int) (R : ByteArray) (hc : c ≤ 100) (hci : (c : Int) = ci) (hR : ⟨(List.replicate c (48 : UInt8)).toArray⟩ = R) (w : World) :
   Calls Tryz.prog 166 #[.string ⟨#[48]⟩, .int .i64 ci] w fun e w' => e = .returned (.string R) ∧ Below w.heap.size w w' := by
 subst hci
 refine (Tryz.strings_Repeat ⟨#[48]⟩ c w (by omega) (by show 1 * c ≤ _; omega)).mono ?_
 rintro e w' ⟨rfl, hb⟩
 have : repeatL (⟨#[48]⟩ : ByteArray).data.toList c = List.replicate c 48 := by
   exact repeat48 c
 rw [this, hR]
 exact ⟨rfl, hb⟩
theorem pad_any (n k : Nat) (h : n < 10 ^ k) (hk : 0 < k) (hk4 : k ≤ 4) (w : World) (htab : Lib.TabIs Tryz.prog w "internal/strconv.uint64pow10" .u64 Lib.pow10Tab) :
   Calls Tryz.prog 170 #[.int .i64 (n : Int), .int .i64 (k : Int)] w fun e w' => e = .returned (.string ⟨(pd k n).toArray⟩) ∧ Below w.heap.size w w' := by
 obtain ⟨h1, h2⟩ := pad_pd k n hk h
 have h3 : 10 ^ k ≤ 10 ^ 4 := Nat.pow_le_pow_right (by decide) hk4
 have hn : n ≤ 9999 := by omega
 obtain ⟨D, hD⟩ : ∃ D : ByteArray, ⟨(decDigits n).toArray⟩ = D := ⟨_, rfl⟩
 obtain ⟨R, hR⟩ : ∃ R : ByteArray, ⟨(List.replicate (k - nDigits n) (48 : UInt8)).toArray⟩ = R := ⟨_, rfl⟩
 have hL : D.size = nDigits n := by rw [← hD]; show (decDigits n).toArray.size = _; rw [List.size_toArray, decDigits_length]
 have hRL : R.size = k - nDigits n := by rw [← hR]; show (List.replicate _ (48 : UInt8)).toArray.size = _; simp
 have hE : R ++ D = ⟨(pd k n).toArray⟩ := by
   rw [← h2, ← hD, ← hR]
   rfl
 have HI := Lib.hid (fun w htab => itoa_nat n D hn hD w htab)
 have HR := Lib.hid (fun w => repeat_lit (k - nDigits n) ((k : Int) - D.size) R (by omega) (by rw [hL]; omega) hR w)
 have HE := Lib.hid hE
 have hLk : D.size ≤ k := by omega
 have hRk : R.size ≤ 4 := by omega
 clear h1 h2 h3 hD hR hL hRL hE h
 go_enter Tryz.func170, Tryz.ntmps170
 go_wp2_with (go_at_call 196; refine (HI.out _ htab).mono ?_; rintro e w1 ⟨rfl, hb1⟩)
 refine (HR.out _).mono ?_
 rintro e w2 ⟨rfl, hb2⟩
 go_wp2
 go_ret
 exact ⟨by rw [← HE.out]; rfl, by (repeat' first | (with_reducible first | exact .refl _ _ | assumption | apply balloc | apply Below.drew | apply bset | refine bstep ?_ ‹_› | refine bturn ?_ ‹_› ?_) | go_size)⟩
/-- A date's text. -/
def textL (y m d : Nat) : List UInt8 := pd 4 y ++ 45 :: (pd 2 m ++ 45 :: pd 2 d)
theorem textL_length (y m d : Nat) : (textL y m d).length = 10 := by simp [textL, pd_length]
theorem pad_lit {n k : Nat} {ni ki : Int} (hni : (n : Int) = ni) (hki : (k : Int) = ki) (h : n < 10 ^ k) (hk : 0 < k) (hk4 : k ≤ 4) {P : ByteArray} (hP : ⟨(pd k n).toArray⟩ = P) (w : World) (htab : Lib.TabIs Tryz.prog w "internal/strconv.uint64pow10" .u64 Lib.pow10Tab) :
   Calls Tryz.prog 170 #[.int .i64 ni, .int .i64 ki] w fun e w' => e = .returned (.string P) ∧ Below w.heap.size w w' := by
 subst hni; subst hki; subst hP
 exact pad_any n k h hk hk4 w htab
set_option maxHeartbeats 1000000 in
theorem text_bad (n : Int) (h : n < 0 ∨ 3652058 < n) (w : World) : Calls Tryz.prog 137 #[.int .i64 n] w fun e w' => e = .returned (.tuple #[.string ⟨#[]⟩, .int .i64 3]) ∧ w = w' := by
 have H := Lib.hid (date_bad n h)
 clear h
 go_enter Tryz.func137, Tryz.ntmps137
 go_wp2_with fail
 refine (H.out _).mono ?_
 rintro e w1 ⟨rfl, rfl⟩
 go_wp2
 go_returns
 exact ⟨rfl, rfl⟩
set_option maxHeartbeats 1000000 in
theorem text_ok (n y : Int) (m : Nat) (h0 : 0 ≤ n) (h1 : n ≤ 3652058) (y0 : 1 ≤ y) (y1 : y ≤ 9999) (m1 : m < 12) (c0 : firstS y + cumS y m ≤ n) (c1 : n < firstS y + cumS y (m + 1)) (d0 : firstS y ≤ n) (d1 : n < firstS (y + 1)) (w : World) (htab : Lib.TabIs Tryz.prog w "internal/strconv.uint64pow10" .u64 Lib.pow10Tab) :
   Calls Tryz.prog 137 #[.int .i64 n] w fun e w' => e = .returned (.tuple #[.string ⟨(textL y.toNat (m + 1) (n - firstS y - cumS y m + 1).toNat).toArray⟩, .int .i64 0]) ∧ Below w.heap.size w w' := by
 have HD := Lib.hid (date_ok n y m h0 h1 y0 y1 m1 c0 c1 d0 d1)
 have HT := Lib.hid (Lib.tabBelow_of_tabIs htab)
 have hl := len_bd y (m + 1)
 have hcs := cum_succ y m
 have e0 : 1 ≤ n - firstS y - cumS y m + 1 := by omega
 have e1 : n - firstS y - cumS y m + 1 ≤ 31 := by omega
 generalize n - firstS y - cumS y m + 1 = d at *
 have HE : Hid (∀ A B C : ByteArray, ⟨(pd 4 y.toNat).toArray⟩ = A → ⟨(pd 2 (m + 1)).toArray⟩ = B → ⟨(pd 2 d.toNat).toArray⟩ = C → A ++ ⟨#[45]⟩ ++ B ++ ⟨#[45]⟩ ++ C = (⟨(textL y.toNat (m + 1) d.toNat).toArray⟩ : ByteArray)) := by
   rintro A B C rfl rfl rfl
   apply ByteArray.ext
   apply Array.toList_inj.1
   simp [textL]
 have HP1 := Lib.hid (fun w htab => pad_lit (n := y.toNat) (k := 4) (ni := y) (ki := 4) (by omega) rfl (by omega) (by omega) (by omega) rfl w htab)
 have HP2 := Lib.hid (fun w htab => pad_lit (n := m + 1) (k := 2) (ni := (m : Int) + 1) (ki := 2) (by omega) rfl (by omega) (by omega) (by omega) rfl w htab)
 have HP3 := Lib.hid (fun w htab => pad_lit (n := d.toNat) (k := 2) (ni := d) (ki := 2) (by omega) rfl (by omega) (by omega) (by omega) rfl w htab)
 have s1 : (⟨(pd 4 y.toNat).toArray⟩ : ByteArray).size = 4 := pd_length _ _
 have s2 : (⟨(pd 2 (m + 1)).toArray⟩ : ByteArray).size = 2 := pd_length _ _
 have s3 : (⟨(pd 2 d.toNat).toArray⟩ : ByteArray).size = 2 := pd_length _ _
 generalize hA : (⟨(pd 4 y.toNat).toArray⟩ : ByteArray) = A at *
 generalize hB : (⟨(pd 2 (m + 1)).toArray⟩ : ByteArray) = B at *
 generalize hC : (⟨(pd 2 d.toNat).toArray⟩ : ByteArray) = C at *
 have HF := Lib.hid (HE.out A B C rfl rfl rfl)
 clear HE hA hB hC htab hl hcs c0 c1 d0 d1
 go_enter Tryz.func137, Tryz.ntmps137
 go_wp2_with fail
 refine (HD.out _).mono ?_
 rintro e w1 ⟨rfl, rfl⟩
 go_wp2_with fail
 refine (HP1.out _ (HT.out _ (by (repeat' first | (with_reducible first | exact .refl _ _ | assumption | apply balloc | apply Below.drew | apply bset | refine bstep ?_ ‹_› | refine bturn ?_ ‹_› ?_) | go_size)))).mono ?_
 rintro e w2 ⟨rfl, hb2⟩
 go_wp2_with fail
 refine (HP2.out _ (HT.out _ (by (repeat' first | (with_reducible first | exact .refl _ _ | assumption | apply balloc | apply Below.drew | apply bset | refine bstep ?_ ‹_› | refine bturn ?_ ‹_› ?_) | go_size)))).mono ?_
 rintro e w3 ⟨rfl, hb3⟩
 go_wp2_with fail
 refine (HP3.out _ (HT.out _ (by (repeat' first | (with_reducible first | exact .refl _ _ | assumption | apply balloc | apply Below.drew | apply bset | refine bstep ?_ ‹_› | refine bturn ?_ ‹_› ?_) | go_size)))).mono ?_
 rintro e w4 ⟨rfl, hb4⟩
 go_wp2
 go_returns
 exact ⟨by rw [← HF.out]; rfl, by (repeat' first | (with_reducible first | exact .refl _ _ | assumption | apply balloc | apply Below.drew | apply bset | refine bstep ?_ ‹_› | refine bturn ?_ ‹_› ?_) | go_size)⟩
end Go.Proofs.YtapilekangmcoaaGreatDoor.Days
namespace Go.Proofs.YtapilekangmcoaaGreatDoor.Days
open Go.RowKit
open Go.Lib hiding intOf
theorem pd_cons : ∀ (k n : Nat), pd (k + 1) n = UInt8.ofNat (48 + n / 10 ^ k % 10) :: pd k n
 | 0, n => by simp [pd]
 | k + 1, n => by
   rw [pd, pd_cons k (n / 10), List.cons_append, Nat.div_div_eq_div_mul, ← Nat.pow_succ']
   rfl
end Go.Proofs.YtapilekangmcoaaGreatDoor.Days
