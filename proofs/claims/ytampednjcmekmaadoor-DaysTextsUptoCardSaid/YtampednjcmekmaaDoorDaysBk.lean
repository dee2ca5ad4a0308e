/- The walk of DaysBack. -/
import Derived.Test.YtampednjcmekmaaDoorLaidY
namespace Go.Proofs.YtampednjcmekmaaDoor
open Go.RowKit
open Go.Lib hiding intOf

theorem good_pd (k n : Nat) : goodP k ⟨(pd k n).toArray⟩ = true := by
  unfold goodP
  rw [Bool.and_eq_true]
  refine ⟨?_, allDig_pd k n⟩
  rw [beq_iff_eq]
  exact pd_length k n
theorem pv_pd (k n : Nat) (h : n < 10 ^ k) : pv ⟨(pd k n).toArray⟩ = n := by
  unfold pv
  show (((decFrom 0 (pd k n)).getD 0 : Nat) : Int) = n
  rw [decFrom_pd k n h]
  rfl
theorem splitB_of {s : ByteArray} {k : Nat} {L : List (List UInt8)} (h : splitK [45] 0 k s.data.toList = L) : splitB ⟨#[45]⟩ 0 k s = L.map fun l => ⟨l.toArray⟩ := by
  have h1 := splitB_data ⟨#[45]⟩ 0 k s
  rw [show (⟨#[45]⟩ : ByteArray).data.toList = [45] from rfl, h] at h1
  rw [← h1, List.map_map]
  conv => lhs; rw [← List.map_id (splitB ⟨#[45]⟩ 0 k s)]
  apply List.map_congr_left
  intro a _
  rfl
theorem parse_text (y m d : Nat) (hy : y < 10000) (hmo : m < 100) (hd : d < 100) (q : Int) (s : ByteArray) (hs : ⟨(textL y m d).toArray⟩ = s) (w : World) (hm : w.cell? ⟨2, 0, none⟩ = some (.int .i64 q)) :
    Calls Tryd.prog 15 #[.string s] w fun e w' => e = .returned (.tuple #[.int .i64 (dayR y m d).n, .int .i64 (dayR y m d).e]) ∧ Below w.heap.size w w' := by
  subst hs
  obtain ⟨h1, h2⟩ := split3 (a := pd 4 y) (b := pd 2 m) (c := pd 2 d) (allDig_no45 (allDig_pd _ _)) (allDig_no45 (allDig_pd _ _)) (allDig_no45 (allDig_pd _ _))
  have hsz : (⟨(textL y m d).toArray⟩ : ByteArray).size = 10 := textL_length y m d
  have h3 : splitB ⟨#[45]⟩ 0 2 ⟨(textL y m d).toArray⟩ = [⟨(pd 4 y).toArray⟩, ⟨(pd 2 m).toArray⟩, ⟨(pd 2 d).toArray⟩] := splitB_of (s := ⟨(textL y m d).toArray⟩) (L := [pd 4 y, pd 2 m, pd 2 d]) h2
  refine (parse_parts ⟨(textL y m d).toArray⟩ ⟨(pd 4 y).toArray⟩ ⟨(pd 2 m).toArray⟩ ⟨(pd 2 d).toArray⟩ q (by omega) ?_ ?_ ?_ h1 h3 w hm).mono ?_
  · show (pd 4 y).toArray.size ≤ _; simp [pd_length]
  · show (pd 2 m).toArray.size ≤ _; simp [pd_length]
  · show (pd 2 d).toArray.size ≤ _; simp [pd_length]
  rintro e w' ⟨rfl, hb⟩
  refine ⟨?_, hb⟩
  unfold parseR
  simp only [good_pd, Bool.and_self, if_true]
  rw [pv_pd 4 y (by omega), pv_pd 2 m (by omega), pv_pd 2 d (by omega)]

set_option maxHeartbeats 4000000 in
set_option maxRecDepth 100000 in
theorem back_core (q x k y mi d p1 p2 p3 : Int) (s : ByteArray) (w : World) (hm : w.cell? ⟨2, 0, none⟩ = some (.int .i64 q)) (hlt : 2 < w.heap.size) (htab : Lib.TabIs Tryd.prog w "internal/strconv.uint64pow10" .u64 Lib.pow10Tab)
    (x0 : 0 ≤ x) (x1 : x ≤ 4294967295) (hk : x % 3652059 = k) (k0 : 0 ≤ k) (k1 : k < 3652058)
    (HD : Hid (∀ w, Calls Tryd.prog 10 #[.int .i64 k] w fun e w' => e = .returned (.tuple #[.int .i64 y, .int .i64 mi, .int .i64 d, .int .i64 0]) ∧ w = w'))
    (HY : Hid (∀ w, Calls Tryd.prog 8 #[.int .i64 y, .int .i64 mi, .int .i64 d] w fun e w' => e = .returned (.tuple #[.int .i64 k, .int .i64 0]) ∧ w = w'))
    (HX : Hid (∀ w, Lib.TabIs Tryd.prog w "internal/strconv.uint64pow10" .u64 Lib.pow10Tab → Calls Tryd.prog 13 #[.int .i64 k] w fun e w' => e = .returned (.tuple #[.string s, .int .i64 0]) ∧ Below w.heap.size w w'))
    (HP : Hid (∀ w : World, w.cell? ⟨2, 0, none⟩ = some (.int .i64 q) → Calls Tryd.prog 15 #[.string s] w fun e w' => e = .returned (.tuple #[.int .i64 k, .int .i64 0]) ∧ Below w.heap.size w w'))
    (HN : Hid (∀ w, Calls Tryd.prog 10 #[.int .i64 (k + 1)] w fun e w' => e = .returned (.tuple #[.int .i64 p1, .int .i64 p2, .int .i64 p3, .int .i64 0]) ∧ w = w'))
    (hs : (s.size : Int) = 10) (hmi : 1 ≤ mi) (hmi2 : mi ≤ 12) (hd1 : 1 ≤ d) (hd2 : d ≤ 31) (hy1 : 1 ≤ y) (hy2 : y ≤ 9999)
    (hc : (p1 = y ∧ p2 = mi ∧ p3 = d + 1) ∨ (p1 = y ∧ p2 = mi + 1 ∧ p3 = 1 ∧ 28 ≤ d) ∨ (p1 = y + 1 ∧ p2 = 1 ∧ p3 = 1 ∧ mi = 12 ∧ d = 31)) :
    Calls Tryd.prog 5 #[.int .u32 x] w fun e w' => e = .returned (.bool true) ∧ Below w.heap.size w w' := by
  have HT := Lib.hid (Lib.tabBelow_of_tabIs htab)
  have HM : Hid (∀ w', Below w.heap.size w w' → w'.cell? ⟨2, 0, none⟩ = some (.int .i64 q)) := fun w' hb => ((bcell hb).1 _ _ hlt).trans hm
  have HC := Lib.hid hc
  clear htab hm hlt hc
  go_enter Tryd.func5, Tryd.ntmps5
  go_wp2_with fail
  refine (HD.out _).mono ?_
  rintro _ _ ⟨rfl, rfl⟩
  go_wp2_with fail
  refine (HY.out _).mono ?_
  rintro _ _ ⟨rfl, rfl⟩
  go_wp2_with fail
  refine (HX.out _ (HT.out _ (by (repeat' (first | (with_reducible exact Below.refl _ _) | (with_reducible assumption) | (with_reducible refine balloc ?_ _) | (with_reducible refine Below.drew ?_) | (with_reducible refine bset ?_ ?_ _) | (with_reducible refine bstep ?_ (by with_reducible assumption)) | (with_reducible refine bturn ?_ (by with_reducible assumption) ?_) | go_size))))).mono ?_
  rintro _ w3 ⟨rfl, hb3⟩
  go_wp2_with fail
  refine (HP.out _ (HM.out _ (by (repeat' (first | (with_reducible exact Below.refl _ _) | (with_reducible assumption) | (with_reducible refine balloc ?_ _) | (with_reducible refine Below.drew ?_) | (with_reducible refine bset ?_ ?_ _) | (with_reducible refine bstep ?_ (by with_reducible assumption)) | (with_reducible refine bturn ?_ (by with_reducible assumption) ?_) | go_size))))).mono ?_
  rintro _ w4 ⟨rfl, hb4⟩
  go_wp2_with fail
  refine (awake_any q _ (HM.out _ (by (repeat' (first | (with_reducible exact Below.refl _ _) | (with_reducible assumption) | (with_reducible refine balloc ?_ _) | (with_reducible refine Below.drew ?_) | (with_reducible refine bset ?_ ?_ _) | (with_reducible refine bstep ?_ (by with_reducible assumption)) | (with_reducible refine bturn ?_ (by with_reducible assumption) ?_) | go_size)))) (HT.out _ (by (repeat' (first | (with_reducible exact Below.refl _ _) | (with_reducible assumption) | (with_reducible refine balloc ?_ _) | (with_reducible refine Below.drew ?_) | (with_reducible refine bset ?_ ?_ _) | (with_reducible refine bstep ?_ (by with_reducible assumption)) | (with_reducible refine bturn ?_ (by with_reducible assumption) ?_) | go_size))))).mono ?_
  rintro _ w5 ⟨rfl, hb5⟩
  go_wp2_with fail
  refine (HN.out _).mono ?_
  rintro _ _ ⟨rfl, rfl⟩
  rcases HC.out with ⟨rfl, rfl, rfl⟩ | ⟨rfl, rfl, rfl, h28⟩ | ⟨rfl, rfl, rfl, rfl, rfl⟩
  all_goals
    clear HC HD HY HX HP HN
    go_wp2
    go_ret
    exact ⟨rfl, by (repeat' (first | (with_reducible exact Below.refl _ _) | (with_reducible assumption) | (with_reducible refine balloc ?_ _) | (with_reducible refine Below.drew ?_) | (with_reducible refine bset ?_ ?_ _) | (with_reducible refine bstep ?_ (by with_reducible assumption)) | (with_reducible refine bturn ?_ (by with_reducible assumption) ?_) | go_size))⟩

set_option maxHeartbeats 4000000 in
set_option maxRecDepth 100000 in
theorem back_last (q x : Int) (s : ByteArray) (w : World) (hm : w.cell? ⟨2, 0, none⟩ = some (.int .i64 q)) (hlt : 2 < w.heap.size) (htab : Lib.TabIs Tryd.prog w "internal/strconv.uint64pow10" .u64 Lib.pow10Tab)
    (x0 : 0 ≤ x) (x1 : x ≤ 4294967295) (hk : x % 3652059 = 3652058)
    (HD : Hid (∀ w, Calls Tryd.prog 10 #[.int .i64 3652058] w fun e w' => e = .returned (.tuple #[.int .i64 9999, .int .i64 12, .int .i64 31, .int .i64 0]) ∧ w = w'))
    (HY : Hid (∀ w, Calls Tryd.prog 8 #[.int .i64 9999, .int .i64 12, .int .i64 31] w fun e w' => e = .returned (.tuple #[.int .i64 3652058, .int .i64 0]) ∧ w = w'))
    (HX : Hid (∀ w, Lib.TabIs Tryd.prog w "internal/strconv.uint64pow10" .u64 Lib.pow10Tab → Calls Tryd.prog 13 #[.int .i64 3652058] w fun e w' => e = .returned (.tuple #[.string s, .int .i64 0]) ∧ Below w.heap.size w w'))
    (HP : Hid (∀ w : World, w.cell? ⟨2, 0, none⟩ = some (.int .i64 q) → Calls Tryd.prog 15 #[.string s] w fun e w' => e = .returned (.tuple #[.int .i64 3652058, .int .i64 0]) ∧ Below w.heap.size w w'))
    (HN : Hid (∀ w, Calls Tryd.prog 10 #[.int .i64 3652059] w fun e w' => e = .returned (.tuple #[.int .i64 0, .int .i64 0, .int .i64 0, .int .i64 3]) ∧ w = w'))
    (hs : (s.size : Int) = 10) :
    Calls Tryd.prog 5 #[.int .u32 x] w fun e w' => e = .returned (.bool true) ∧ Below w.heap.size w w' := by
  have HT := Lib.hid (Lib.tabBelow_of_tabIs htab)
  have HM : Hid (∀ w', Below w.heap.size w w' → w'.cell? ⟨2, 0, none⟩ = some (.int .i64 q)) := fun w' hb => ((bcell hb).1 _ _ hlt).trans hm
  clear htab hm hlt
  go_enter Tryd.func5, Tryd.ntmps5
  go_wp2_with fail
  refine (HD.out _).mono ?_
  rintro _ _ ⟨rfl, rfl⟩
  go_wp2_with fail
  refine (HY.out _).mono ?_
  rintro _ _ ⟨rfl, rfl⟩
  go_wp2_with fail
  refine (HX.out _ (HT.out _ (by (repeat' (first | (with_reducible exact Below.refl _ _) | (with_reducible assumption) | (with_reducible refine balloc ?_ _) | (with_reducible refine Below.drew ?_) | (with_reducible refine bset ?_ ?_ _) | (with_reducible refine bstep ?_ (by with_reducible assumption)) | (with_reducible refine bturn ?_ (by with_reducible assumption) ?_) | go_size))))).mono ?_
  rintro _ w3 ⟨rfl, hb3⟩
  go_wp2_with fail
  refine (HP.out _ (HM.out _ (by (repeat' (first | (with_reducible exact Below.refl _ _) | (with_reducible assumption) | (with_reducible refine balloc ?_ _) | (with_reducible refine Below.drew ?_) | (with_reducible refine bset ?_ ?_ _) | (with_reducible refine bstep ?_ (by with_reducible assumption)) | (with_reducible refine bturn ?_ (by with_reducible assumption) ?_) | go_size))))).mono ?_
  rintro _ w4 ⟨rfl, hb4⟩
  go_wp2_with fail
  refine (awake_any q _ (HM.out _ (by (repeat' (first | (with_reducible exact Below.refl _ _) | (with_reducible assumption) | (with_reducible refine balloc ?_ _) | (with_reducible refine Below.drew ?_) | (with_reducible refine bset ?_ ?_ _) | (with_reducible refine bstep ?_ (by with_reducible assumption)) | (with_reducible refine bturn ?_ (by with_reducible assumption) ?_) | go_size)))) (HT.out _ (by (repeat' (first | (with_reducible exact Below.refl _ _) | (with_reducible assumption) | (with_reducible refine balloc ?_ _) | (with_reducible refine Below.drew ?_) | (with_reducible refine bset ?_ ?_ _) | (with_reducible refine bstep ?_ (by with_reducible assumption)) | (with_reducible refine bturn ?_ (by with_reducible assumption) ?_) | go_size))))).mono ?_
  rintro _ w5 ⟨rfl, hb5⟩
  go_wp2_with fail
  refine (HN.out _).mono ?_
  rintro _ _ ⟨rfl, rfl⟩
  go_wp2
  go_ret
  exact ⟨rfl, by (repeat' (first | (with_reducible exact Below.refl _ _) | (with_reducible assumption) | (with_reducible refine balloc ?_ _) | (with_reducible refine Below.drew ?_) | (with_reducible refine bset ?_ ?_ _) | (with_reducible refine bstep ?_ (by with_reducible assumption)) | (with_reducible refine bturn ?_ (by with_reducible assumption) ?_) | go_size))⟩

theorem len_12 (y : Int) : lenS y 12 = 31 := by simp [lenS]
/-- What date the day behind a date has. -/
theorem next_date {k y : Int} {m : Nat} (k1 : k < 3652058) (a : 1 ≤ y) (b : y ≤ 9999) (c : m < 12) (d : firstS y + cumS y m ≤ k) (e : k < firstS y + cumS y (m + 1)) (f : firstS y ≤ k) (g : k < firstS (y + 1)) :
    ∃ p1 p2 p3 : Int, (∀ w, Calls Tryd.prog 10 #[.int .i64 (k + 1)] w fun e w' => e = .returned (.tuple #[.int .i64 p1, .int .i64 p2, .int .i64 p3, .int .i64 0]) ∧ w = w') ∧
      ((p1 = y ∧ p2 = (m : Int) + 1 ∧ p3 = k - firstS y - cumS y m + 1 + 1) ∨ (p1 = y ∧ p2 = (m : Int) + 1 + 1 ∧ p3 = 1 ∧ 28 ≤ k - firstS y - cumS y m + 1) ∨ (p1 = y + 1 ∧ p2 = 1 ∧ p3 = 1 ∧ (m : Int) + 1 = 12 ∧ k - firstS y - cumS y m + 1 = 31)) := by
  have hf := first_ge a
  have hc := cum_bd y m
  have hl := len_bd y ((m : Int) + 1)
  have hs := cum_succ y m
  have hy := first_succ y
  have h12 := cum_12 y
  by_cases h1 : k + 1 < firstS y + cumS y (m + 1)
  · have hm2 := cum_mono y (a := m + 1) (b := 12) (by omega)
    refine ⟨_, _, _, fun w => date_ok (k + 1) y m (by omega) (by omega) a b c (by omega) h1 (by omega) (by omega) w, .inl ⟨rfl, rfl, by omega⟩⟩
  · by_cases h2 : m + 1 < 12
    · have hm2 := cum_mono y (a := m + 1 + 1) (b := 12) (by omega)
      have hl2 := len_bd y (((m + 1 : Nat) : Int) + 1)
      have hs2 := cum_succ y (m + 1)
      refine ⟨_, _, _, fun w => date_ok (k + 1) y (m + 1) (by omega) (by omega) a b h2 (by omega) (by omega) (by omega) (by omega) w, .inr (.inl ⟨rfl, by omega, by omega, by omega⟩)⟩
    · have hm11 : m = 11 := by omega
      subst hm11
      have hl12 := len_12 y
      have hs' : cumS y 12 = cumS y 11 + lenS y 12 := hs
      have e' : k < firstS y + cumS y 12 := e
      have h1' : ¬ k + 1 < firstS y + cumS y 12 := h1
      clear hs hl e h1 hc
      have hy2 := first_succ (y + 1)
      have hyb := year_bd (y + 1)
      have hs1 := cum_succ (y + 1) 0
      have hl1 := len_bd (y + 1) (((0 : Nat) : Int) + 1)
      have h0 : cumS (y + 1) 0 = 0 := rfl
      have hy9 : y ≤ 9998 := by
        apply Int.le_of_not_gt
        intro hgt
        obtain rfl : y = 9999 := by omega
        have := first_10000
        rw [show (9999 : Int) + 1 = 10000 by decide] at hy g
        omega
      have hs1' : cumS (y + 1) (0 + 1) = cumS (y + 1) 0 + lenS (y + 1) (((0 : Nat) : Int) + 1) := hs1
      refine ⟨_, _, _, fun w => date_ok (k + 1) (y + 1) 0 (by omega) (by omega) (by omega) (by omega) (by omega) (by omega) (by omega) (by omega) (by omega) w, .inr (.inr ⟨rfl, by rfl, by omega, by rfl, by omega⟩)⟩

theorem back_any (q x : Int) (x0 : 0 ≤ x) (x1 : x ≤ 4294967295) (w : World) (hm : w.cell? ⟨2, 0, none⟩ = some (.int .i64 q)) (hlt : 2 < w.heap.size) (htab : Lib.TabIs Tryd.prog w "internal/strconv.uint64pow10" .u64 Lib.pow10Tab) :
    Calls Tryd.prog 5 #[.int .u32 x] w fun e w' => e = .returned (.bool true) ∧ Below w.heap.size w w' := by
  obtain ⟨k, hk⟩ : ∃ k, x % 3652059 = k := ⟨_, rfl⟩
  have k0 : 0 ≤ k := by omega
  have k1 : k ≤ 3652058 := by omega
  obtain ⟨y, m, a, b, c, d, e, f, g⟩ := date_of k k0 k1
  have hl := len_bd y ((m : Int) + 1)
  have hs := cum_succ y m
  have hD : ∀ w, Calls Tryd.prog 10 #[.int .i64 k] w fun e w' => e = .returned (.tuple #[.int .i64 y, .int .i64 ((m : Int) + 1), .int .i64 (k - firstS y - cumS y m + 1), .int .i64 0]) ∧ w = w' := fun w => date_ok k y m k0 k1 a b c d e f g w
  have hok : okD y ((m : Int) + 1) (k - firstS y - cumS y m + 1) := ⟨a, b, by omega, by omega, by omega, by omega⟩
  have hn : dayN y ((m : Int) + 1) (k - firstS y - cumS y m + 1) = k := by
    unfold dayN
    rw [show ((m : Int) + 1 - 1).toNat = m by omega]
    omega
  have hr : dayR y ((m : Int) + 1) (k - firstS y - cumS y m + 1) = ⟨k, 0⟩ := by unfold dayR; rw [if_pos hok, hn]
  have hY : ∀ w, Calls Tryd.prog 8 #[.int .i64 y, .int .i64 ((m : Int) + 1), .int .i64 (k - firstS y - cumS y m + 1)] w fun e w' => e = .returned (.tuple #[.int .i64 k, .int .i64 0]) ∧ w = w' := fun w => by
    have := day_any y ((m : Int) + 1) (k - firstS y - cumS y m + 1) w
    rw [hr] at this
    exact this
  have hX := fun w => text_ok k y m k0 k1 a b c d e f g w
  have hd1 : 1 ≤ k - firstS y - cumS y m + 1 := by omega
  have hd2 : k - firstS y - cumS y m + 1 ≤ 31 := by omega
  have hP : ∀ w : World, w.cell? ⟨2, 0, none⟩ = some (.int .i64 q) → Calls Tryd.prog 15 #[.string ⟨(textL y.toNat (m + 1) (k - firstS y - cumS y m + 1).toNat).toArray⟩] w fun e w' => e = .returned (.tuple #[.int .i64 k, .int .i64 0]) ∧ Below w.heap.size w w' := fun w hm => by
    have := parse_text y.toNat (m + 1) (k - firstS y - cumS y m + 1).toNat (by omega) (by omega) (by omega) q _ rfl w hm
    rw [Int.toNat_of_nonneg (by omega), Int.toNat_of_nonneg (by omega), show (((m + 1 : Nat) : Int)) = (m : Int) + 1 by omega, hr] at this
    exact this
  have hsz : (((⟨(textL y.toNat (m + 1) (k - firstS y - cumS y m + 1).toNat).toArray⟩ : ByteArray).size : Nat) : Int) = 10 := by
    rw [show (⟨(textL y.toNat (m + 1) (k - firstS y - cumS y m + 1).toNat).toArray⟩ : ByteArray).size = 10 from textL_length _ _ _]
    rfl
  by_cases hlast : k < 3652058
  · obtain ⟨p1, p2, p3, hN, hc⟩ := next_date hlast a b c d e f g
    exact back_core q x k y ((m : Int) + 1) (k - firstS y - cumS y m + 1) p1 p2 p3 _ w hm hlt htab x0 x1 hk k0 hlast (Lib.hid hD) (Lib.hid hY) (Lib.hid hX) (Lib.hid hP) (Lib.hid hN) hsz (by omega) (by omega) hd1 hd2 a b hc
  · obtain rfl : k = 3652058 := by omega
    obtain rfl : y = 9999 := year_uniq f g (by decide +kernel) (by decide +kernel)
    obtain rfl : m = 11 := month_uniq (n := 3652058 - firstS 9999) (y := 9999) (by omega) (by omega) (by decide +kernel) (by decide +kernel)
    have hN : ∀ w, Calls Tryd.prog 10 #[.int .i64 3652059] w fun e w' => e = .returned (.tuple #[.int .i64 0, .int .i64 0, .int .i64 0, .int .i64 3]) ∧ w = w' := fun w => date_bad 3652059 (.inr (by decide)) w
    have hd31 : (3652058 : Int) - firstS 9999 - cumS 9999 11 + 1 = 31 := by decide +kernel
    rw [hd31] at hD hY
    exact back_last q x _ w hm hlt htab x0 x1 hk (Lib.hid hD) (Lib.hid hY) (Lib.hid hX) (Lib.hid hP) (Lib.hid hN) hsz
end Go.Proofs.YtampednjcmekmaaDoor
