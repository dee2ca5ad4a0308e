/- The walk of DaysOrder. -/
import Derived.Test.YtampednjcmekmaaDoorDaysBk
namespace Go.Proofs.YtampednjcmekmaaDoor
open Go.RowKit
open Go.Lib hiding intOf

theorem less_lists : ∀ (x y : List UInt8), Op.bytesLess x y = decide (x < y)
  | [], [] => by simp [Op.bytesLess]
  | _ :: _, [] => by simp [Op.bytesLess]
  | [], _ :: _ => by simp [Op.bytesLess]
  | a :: x, b :: y => by
    rw [Op.bytesLess, less_lists x y]
    simp only [List.cons_lt_cons_iff]
    by_cases h1 : a < b <;> by_cases h2 : a = b <;> by_cases h3 : x < y <;> simp [h1, h2, h3]
theorem pd_less : ∀ (k a b : Nat) (r s : List UInt8), a < 10 ^ k → b < 10 ^ k → (pd k a ++ r < pd k b ++ s ↔ a < b ∨ a = b ∧ r < s)
  | 0, a, b, r, s, ha, hb => by
    simp at ha hb
    subst ha; subst hb
    simp [pd]
  | k + 1, a, b, r, s, ha, hb => by
    rw [Nat.pow_succ] at ha hb
    rw [pd, pd, List.append_assoc, List.append_assoc, pd_less k (a / 10) (b / 10) _ _ (by omega) (by omega)]
    have e1 : UInt8.ofNat (48 + a % 10) < UInt8.ofNat (48 + b % 10) ↔ a % 10 < b % 10 := by
      rw [UInt8.lt_iff_toNat_lt, dig_ofNat (by omega), dig_ofNat (by omega)]; omega
    have e2 : UInt8.ofNat (48 + a % 10) = UInt8.ofNat (48 + b % 10) ↔ a % 10 = b % 10 := by
      rw [← UInt8.toNat_inj, dig_ofNat (by omega), dig_ofNat (by omega)]; omega
    simp only [List.singleton_append, List.cons_lt_cons_iff, e1, e2]
    constructor
    · rintro (h | ⟨h, h2 | ⟨h2, h3⟩⟩)
      · exact .inl (by omega)
      · exact .inl (by omega)
      · exact .inr ⟨by omega, h3⟩
    · rintro (h | ⟨h, h2⟩)
      · by_cases h3 : a / 10 < b / 10
        · exact .inl h3
        · exact .inr ⟨by omega, .inl (by omega)⟩
      · exact .inr ⟨by omega, .inr ⟨by omega, h2⟩⟩
theorem text_less {y1 m1 d1 y2 m2 d2 : Nat} (a1 : y1 < 10000) (a2 : m1 < 100) (a3 : d1 < 100) (b1 : y2 < 10000) (b2 : m2 < 100) (b3 : d2 < 100) : textL y1 m1 d1 < textL y2 m2 d2 ↔ y1 < y2 ∨ y1 = y2 ∧ (m1 < m2 ∨ m1 = m2 ∧ d1 < d2) := by
  have e := pd_less 2 d1 d2 [] [] (by omega) (by omega)
  simp only [List.append_nil] at e
  unfold textL
  rw [pd_less 4 y1 y2 _ _ (by omega) (by omega), List.cons_lt_cons_iff, pd_less 2 m1 m2 _ _ (by omega) (by omega), List.cons_lt_cons_iff, e]
  simp

theorem first_400 (y : Int) : firstS (y + 400) = firstS y + 146097 := by unfold firstS; omega
theorem leap_400 (y : Int) : leapB (y + 400) = leapB y := by
  rw [Bool.eq_iff_iff, leap_iff, leap_iff]
  omega
theorem len_400 (y m : Int) : lenS (y + 400) m = lenS y m := by unfold lenS; rw [leap_400]
theorem cum_400 (y : Int) : ∀ m : Nat, cumS (y + 400) m = cumS y m
  | 0 => rfl
  | m + 1 => by rw [cum_succ, cum_succ, cum_400 y m, len_400]

/-- Of two days the later one has the later date. -/
theorem dates_less {k l y z : Int} {m n : Nat} (hm : m < 12) (hn : n < 12) (a : firstS y + cumS y m ≤ k) (b : k < firstS y + cumS y (m + 1)) (a' : firstS y ≤ k) (b' : k < firstS (y + 1)) (c : firstS z + cumS z n ≤ l) (d : l < firstS z + cumS z (n + 1)) (c' : firstS z ≤ l) (d' : l < firstS (z + 1)) :
    k < l ↔ y < z ∨ y = z ∧ (m < n ∨ m = n ∧ k - firstS y - cumS y m < l - firstS z - cumS z n) := by
  rcases Int.lt_trichotomy y z with h | h | h
  · have := first_mono (a := y + 1) (b := z) (by omega)
    constructor
    · intro _; exact .inl h
    · intro _; omega
  · subst h
    rcases Nat.lt_trichotomy m n with h | h | h
    · have := cum_mono y (a := m + 1) (b := n) (by omega)
      constructor
      · intro _; exact .inr ⟨rfl, .inl h⟩
      · intro _; omega
    · subst h
      omega
    · have := cum_mono y (a := n + 1) (b := m) (by omega)
      constructor
      · intro _; omega
      · intro _; omega
  · have := first_mono (a := z + 1) (b := y) (by omega)
    constructor
    · intro _; omega
    · intro _; omega

set_option maxHeartbeats 4000000 in
set_option maxRecDepth 100000 in
theorem order_core (q u v k l y mi d : Int) (s t : ByteArray) (w : World) (hm : w.cell? ⟨2, 0, none⟩ = some (.int .i64 q)) (hlt : 2 < w.heap.size) (htab : Lib.TabIs Tryd.prog w "internal/strconv.uint64pow10" .u64 Lib.pow10Tab)
    (u0 : 0 ≤ u) (u1 : u ≤ 4294967295) (hk : u % 3652059 = k) (v0 : 0 ≤ v) (v1 : v ≤ 4294967295) (hl : v % 3652059 = l) (k0 : 0 ≤ k) (k1 : k ≤ 3652058) (l0 : 0 ≤ l) (l1 : l ≤ 3652058)
    (HX : Hid (∀ w, Lib.TabIs Tryd.prog w "internal/strconv.uint64pow10" .u64 Lib.pow10Tab → Calls Tryd.prog 13 #[.int .i64 k] w fun e w' => e = .returned (.tuple #[.string s, .int .i64 0]) ∧ Below w.heap.size w w'))
    (HZ : Hid (∀ w, Lib.TabIs Tryd.prog w "internal/strconv.uint64pow10" .u64 Lib.pow10Tab → Calls Tryd.prog 13 #[.int .i64 l] w fun e w' => e = .returned (.tuple #[.string t, .int .i64 0]) ∧ Below w.heap.size w w'))
    (HD : Hid (∀ w, Calls Tryd.prog 10 #[.int .i64 k] w fun e w' => e = .returned (.tuple #[.int .i64 y, .int .i64 mi, .int .i64 d, .int .i64 0]) ∧ w = w'))
    (HE : Hid (k + 146097 ≤ 3652058 → ∀ w, Calls Tryd.prog 10 #[.int .i64 (k + 146097)] w fun e w' => e = .returned (.tuple #[.int .i64 (y + 400), .int .i64 mi, .int .i64 d, .int .i64 0]) ∧ w = w'))
    (y0 : 0 ≤ y) (y1 : y ≤ 9999) (hst : Op.bytesLess s.toList t.toList = decide (k < l)) :
    Calls Tryd.prog 6 #[.int .u32 u, .int .u32 v] w fun e w' => e = .returned (.bool true) ∧ Below w.heap.size w w' := by
  have HT := Lib.hid (Lib.tabBelow_of_tabIs htab)
  have HM : Hid (∀ w', Below w.heap.size w w' → w'.cell? ⟨2, 0, none⟩ = some (.int .i64 q)) := fun w' hb => ((bcell hb).1 _ _ hlt).trans hm
  clear htab hm hlt
  obtain ⟨b, hb⟩ : ∃ b, decide (k < l) = b := ⟨_, rfl⟩
  rw [hb] at hst
  by_cases hbig : 3652058 < k + 146097
  · go_enter Tryd.func6, Tryd.ntmps6
    go_wp2_with fail
    refine (HX.out _ (HT.out _ (by (repeat' (first | (with_reducible exact Below.refl _ _) | (with_reducible assumption) | (with_reducible refine balloc ?_ _) | (with_reducible refine Below.drew ?_) | (with_reducible refine bset ?_ ?_ _) | (with_reducible refine bstep ?_ (by with_reducible assumption)) | (with_reducible refine bturn ?_ (by with_reducible assumption) ?_) | go_size))))).mono ?_
    rintro _ w3 ⟨rfl, hb3⟩
    go_wp2_with fail
    refine (HZ.out _ (HT.out _ (by (repeat' (first | (with_reducible exact Below.refl _ _) | (with_reducible assumption) | (with_reducible refine balloc ?_ _) | (with_reducible refine Below.drew ?_) | (with_reducible refine bset ?_ ?_ _) | (with_reducible refine bstep ?_ (by with_reducible assumption)) | (with_reducible refine bturn ?_ (by with_reducible assumption) ?_) | go_size))))).mono ?_
    rintro _ w4 ⟨rfl, hb4⟩
    go_wp2_with fail
    refine (awake_any q _ (HM.out _ (by (repeat' (first | (with_reducible exact Below.refl _ _) | (with_reducible assumption) | (with_reducible refine balloc ?_ _) | (with_reducible refine Below.drew ?_) | (with_reducible refine bset ?_ ?_ _) | (with_reducible refine bstep ?_ (by with_reducible assumption)) | (with_reducible refine bturn ?_ (by with_reducible assumption) ?_) | go_size)))) (HT.out _ (by (repeat' (first | (with_reducible exact Below.refl _ _) | (with_reducible assumption) | (with_reducible refine balloc ?_ _) | (with_reducible refine Below.drew ?_) | (with_reducible refine bset ?_ ?_ _) | (with_reducible refine bstep ?_ (by with_reducible assumption)) | (with_reducible refine bturn ?_ (by with_reducible assumption) ?_) | go_size))))).mono ?_
    rintro _ w5 ⟨rfl, hb5⟩
    go_wp2
    go_ret
    exact ⟨rfl, by (repeat' (first | (with_reducible exact Below.refl _ _) | (with_reducible assumption) | (with_reducible refine balloc ?_ _) | (with_reducible refine Below.drew ?_) | (with_reducible refine bset ?_ ?_ _) | (with_reducible refine bstep ?_ (by with_reducible assumption)) | (with_reducible refine bturn ?_ (by with_reducible assumption) ?_) | go_size))⟩
  · have HE2 := Lib.hid (HE.out (by omega))
    go_enter Tryd.func6, Tryd.ntmps6
    go_wp2_with fail
    refine (HX.out _ (HT.out _ (by (repeat' (first | (with_reducible exact Below.refl _ _) | (with_reducible assumption) | (with_reducible refine balloc ?_ _) | (with_reducible refine Below.drew ?_) | (with_reducible refine bset ?_ ?_ _) | (with_reducible refine bstep ?_ (by with_reducible assumption)) | (with_reducible refine bturn ?_ (by with_reducible assumption) ?_) | go_size))))).mono ?_
    rintro _ w3 ⟨rfl, hb3⟩
    go_wp2_with fail
    refine (HZ.out _ (HT.out _ (by (repeat' (first | (with_reducible exact Below.refl _ _) | (with_reducible assumption) | (with_reducible refine balloc ?_ _) | (with_reducible refine Below.drew ?_) | (with_reducible refine bset ?_ ?_ _) | (with_reducible refine bstep ?_ (by with_reducible assumption)) | (with_reducible refine bturn ?_ (by with_reducible assumption) ?_) | go_size))))).mono ?_
    rintro _ w4 ⟨rfl, hb4⟩
    go_wp2_with fail
    refine (awake_any q _ (HM.out _ (by (repeat' (first | (with_reducible exact Below.refl _ _) | (with_reducible assumption) | (with_reducible refine balloc ?_ _) | (with_reducible refine Below.drew ?_) | (with_reducible refine bset ?_ ?_ _) | (with_reducible refine bstep ?_ (by with_reducible assumption)) | (with_reducible refine bturn ?_ (by with_reducible assumption) ?_) | go_size)))) (HT.out _ (by (repeat' (first | (with_reducible exact Below.refl _ _) | (with_reducible assumption) | (with_reducible refine balloc ?_ _) | (with_reducible refine Below.drew ?_) | (with_reducible refine bset ?_ ?_ _) | (with_reducible refine bstep ?_ (by with_reducible assumption)) | (with_reducible refine bturn ?_ (by with_reducible assumption) ?_) | go_size))))).mono ?_
    rintro _ w5 ⟨rfl, hb5⟩
    go_wp2_with fail
    refine (HD.out _).mono ?_
    rintro _ _ ⟨rfl, rfl⟩
    go_wp2_with fail
    refine (HE2.out _).mono ?_
    rintro _ _ ⟨rfl, rfl⟩
    go_wp2
    go_ret
    exact ⟨by simp, by (repeat' (first | (with_reducible exact Below.refl _ _) | (with_reducible assumption) | (with_reducible refine balloc ?_ _) | (with_reducible refine Below.drew ?_) | (with_reducible refine bset ?_ ?_ _) | (with_reducible refine bstep ?_ (by with_reducible assumption)) | (with_reducible refine bturn ?_ (by with_reducible assumption) ?_) | go_size))⟩

theorem order_any (q u v : Int) (u0 : 0 ≤ u) (u1 : u ≤ 4294967295) (v0 : 0 ≤ v) (v1 : v ≤ 4294967295) (w : World) (hm : w.cell? ⟨2, 0, none⟩ = some (.int .i64 q)) (hlt : 2 < w.heap.size) (htab : Lib.TabIs Tryd.prog w "internal/strconv.uint64pow10" .u64 Lib.pow10Tab) :
    Calls Tryd.prog 6 #[.int .u32 u, .int .u32 v] w fun e w' => e = .returned (.bool true) ∧ Below w.heap.size w w' := by
  obtain ⟨k, hk⟩ : ∃ k, u % 3652059 = k := ⟨_, rfl⟩
  obtain ⟨l, hl⟩ : ∃ l, v % 3652059 = l := ⟨_, rfl⟩
  have k0 : 0 ≤ k := by omega
  have k1 : k ≤ 3652058 := by omega
  have l0 : 0 ≤ l := by omega
  have l1 : l ≤ 3652058 := by omega
  obtain ⟨y, m, a, b, c, d, e, f, g⟩ := date_of k k0 k1
  obtain ⟨z, n, a', b', c', d', e', f', g'⟩ := date_of l l0 l1
  have hc := cum_succ y m
  have hc' := cum_succ z n
  have hln := len_bd y ((m : Int) + 1)
  have hln' := len_bd z ((n : Int) + 1)
  have hE : k + 146097 ≤ 3652058 → ∀ w, Calls Tryd.prog 10 #[.int .i64 (k + 146097)] w fun e w' => e = .returned (.tuple #[.int .i64 (y + 400), .int .i64 ((m : Int) + 1), .int .i64 (k - firstS y - cumS y m + 1), .int .i64 0]) ∧ w = w' := fun hle w => by
    have h4 := first_400 y
    have h5 := cum_400 y m
    have h6 := cum_400 y (m + 1)
    have h7 := first_400 (y + 1)
    rw [show y + 1 + 400 = y + 400 + 1 by omega] at h7
    have h8 := first_mono (a := 10000) (b := y + 400)
    have h9 := first_10000
    have h10 : y + 400 ≤ 9999 := by
      apply Int.le_of_not_gt
      intro hgt
      have := h8 (by omega)
      omega
    have := date_ok (k + 146097) (y + 400) m (by omega) hle (by omega) h10 c (by omega) (by omega) (by omega) (by omega) w
    rw [show k + 146097 - firstS (y + 400) - cumS (y + 400) m + 1 = k - firstS y - cumS y m + 1 by omega] at this
    exact this
  have hst : Op.bytesLess (⟨(textL y.toNat (m + 1) (k - firstS y - cumS y m + 1).toNat).toArray⟩ : ByteArray).toList (⟨(textL z.toNat (n + 1) (l - firstS z - cumS z n + 1).toNat).toArray⟩ : ByteArray).toList = decide (k < l) := by
    rw [less_lists, decide_eq_decide, Lib.toList_data, Lib.toList_data]
    show textL _ _ _ < textL _ _ _ ↔ _
    rw [text_less (by omega) (by omega) (by omega) (by omega) (by omega) (by omega), dates_less c c' d e f g d' e' f' g']
    omega
  exact order_core q u v k l y ((m : Int) + 1) (k - firstS y - cumS y m + 1) _ _ w hm hlt htab u0 u1 hk v0 v1 hl k0 k1 l0 l1 (Lib.hid fun w => text_ok k y m k0 k1 a b c d e f g w) (Lib.hid fun w => text_ok l z n l0 l1 a' b' c' d' e' f' g' w) (Lib.hid fun w => date_ok k y m k0 k1 a b c d e f g w) (Lib.hid hE) (by omega) b hst
end Go.Proofs.YtampednjcmekmaaDoor
