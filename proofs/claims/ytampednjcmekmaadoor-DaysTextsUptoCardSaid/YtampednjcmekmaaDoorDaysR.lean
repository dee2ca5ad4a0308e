/- What every law of package days calls (awake), and the walks of DaysLeap and DaysDay. -/
import Derived.Test.YtampednjcmekmaaDoorDaysQ
import Derived.Test.YtampednjcmekmaaDoorDaysC
namespace Go.Proofs.YtampednjcmekmaaDoor
open Go.RowKit
open Go.Lib hiding intOf

theorem parse_awake (m : Int) (w : World) (hm : w.cell? ⟨2, 0, none⟩ = some (.int .i64 m)) :
    Calls Tryd.prog 15 #[.string ⟨#[50, 48, 48, 48, 45, 48, 51, 45, 48, 49]⟩] w fun e w' => e = .returned (.tuple #[.int .i64 730179, .int .i64 0]) ∧ Below w.heap.size w w' := by
  refine (parse_parts ⟨#[50, 48, 48, 48, 45, 48, 51, 45, 48, 49]⟩ ⟨#[50, 48, 48, 48]⟩ ⟨#[48, 51]⟩ ⟨#[48, 49]⟩ m (by decide) (by decide) (by decide) (by decide) (by decide +kernel) (by decide +kernel) w hm).mono ?_
  rintro e w' ⟨rfl, hb⟩
  exact ⟨by rw [show (parseR ⟨#[50, 48, 48, 48]⟩ ⟨#[48, 51]⟩ ⟨#[48, 49]⟩).n = 730179 by decide +kernel, show (parseR ⟨#[50, 48, 48, 48]⟩ ⟨#[48, 51]⟩ ⟨#[48, 49]⟩).e = 0 by decide +kernel], hb⟩
theorem text_awake (w : World) (htab : Lib.TabIs Tryd.prog w "internal/strconv.uint64pow10" .u64 Lib.pow10Tab) :
    Calls Tryd.prog 13 #[.int .i64 730119] w fun e w' => e = .returned (.tuple #[.string ⟨#[50, 48, 48, 48, 45, 48, 49, 45, 48, 49]⟩, .int .i64 0]) ∧ Below w.heap.size w w' := by
  refine (text_ok 730119 2000 0 (by decide) (by decide) (by decide) (by decide) (by decide) (by decide +kernel) (by decide +kernel) (by decide +kernel) (by decide +kernel) w htab).mono ?_
  rintro e w' ⟨rfl, hb⟩
  exact ⟨by rw [show (⟨(textL (2000 : Int).toNat (0 + 1) (730119 - firstS 2000 - cumS 2000 0 + 1).toNat).toArray⟩ : ByteArray) = ⟨#[50, 48, 48, 48, 45, 48, 49, 45, 48, 49]⟩ by decide +kernel], hb⟩

set_option maxHeartbeats 2000000 in
theorem awake_any (m : Int) (w : World) (hm : w.cell? ⟨2, 0, none⟩ = some (.int .i64 m)) (htab : Lib.TabIs Tryd.prog w "internal/strconv.uint64pow10" .u64 Lib.pow10Tab) :
    Calls Tryd.prog 12 #[] w fun e w' => e = .returned (.bool true) ∧ Below w.heap.size w w' := by
  have HT := Lib.hid (Lib.tabBelow_of_tabIs htab)
  clear htab
  go_enter Tryd.func12, Tryd.ntmps12
  go_wp2_with fail
  refine (parse_awake m _ hm).mono ?_
  rintro e w1 ⟨rfl, hb⟩
  clear hm
  go_wp2_with fail
  refine (text_awake _ (HT.out _ (by (repeat' (first | (with_reducible exact Below.refl _ _) | (with_reducible assumption) | (with_reducible refine balloc ?_ _) | (with_reducible refine Below.drew ?_) | (with_reducible refine bset ?_ ?_ _) | (with_reducible refine bstep ?_ (by with_reducible assumption)) | (with_reducible refine bturn ?_ (by with_reducible assumption) ?_) | go_size))))).mono ?_
  rintro e w2 ⟨rfl, hb2⟩
  go_wp2
  go_ret
  exact ⟨rfl, by (repeat' (first | (with_reducible exact Below.refl _ _) | (with_reducible assumption) | (with_reducible refine balloc ?_ _) | (with_reducible refine Below.drew ?_) | (with_reducible refine bset ?_ ?_ _) | (with_reducible refine bstep ?_ (by with_reducible assumption)) | (with_reducible refine bturn ?_ (by with_reducible assumption) ?_) | go_size))⟩

theorem leap_day (y : Int) : (dayR y 2 29).e = if 1 ≤ y ∧ y ≤ 9999 ∧ leapB y = true then 0 else 3 := by
  unfold dayR
  by_cases h : okD y 2 29
  · rw [if_pos h]
    obtain ⟨g1, g2, _, _, _, g6⟩ := h
    have : leapB y = true := by
      apply Classical.byContradiction
      intro hn
      unfold lenS at g6
      rw [if_pos rfl, if_neg hn] at g6
      omega
    rw [if_pos ⟨g1, g2, this⟩]
  · rw [if_neg h]
    rw [if_neg]
    rintro ⟨g1, g2, g3⟩
    apply h
    refine ⟨g1, g2, by omega, by omega, by omega, ?_⟩
    unfold lenS
    rw [if_pos rfl, if_pos g3]
    omega

set_option maxHeartbeats 2000000 in
theorem leaplaw_any (m y : Int) (w : World) (hm : w.cell? ⟨2, 0, none⟩ = some (.int .i64 m)) (hlt : 2 < w.heap.size) (htab : Lib.TabIs Tryd.prog w "internal/strconv.uint64pow10" .u64 Lib.pow10Tab) :
    Calls Tryd.prog 7 #[.int .i64 y] w fun e w' => e = .returned (.bool true) ∧ Below w.heap.size w w' := by
  have HE := Lib.hid (leap_day y)
  have HA := Lib.hid (awake_any m w hm htab)
  have HL := Lib.hid (leap_any y)
  have HR := Lib.hid (rleap_any y)
  clear htab hm hlt
  by_cases g1 : 1 ≤ y
  · by_cases g2 : y ≤ 9999
    · cases hb : leapB y
      · rw [hb] at HE HL HR
        have he : (dayR y 2 29).e = 3 := by rw [HE.out, if_neg (by simp)]
        have HE2 := Lib.hid he
        clear he
        go_enter Tryd.func7, Tryd.ntmps7
        go_wp2_with (first
          | (go_at_call 17; refine (HL.out _).mono ?_; rintro e w' ⟨rfl, rfl⟩)
          | (go_at_call 18; refine (HR.out _).mono ?_; rintro e w' ⟨rfl, rfl⟩)
          | (go_at_call 8; refine (day_any y 2 29 _).mono ?_; rintro e w' ⟨rfl, rfl⟩; rw [HE2.out])
          | (go_at_call 12; refine HA.out.mono ?_; rintro e w' ⟨rfl, hb'⟩))
        go_ret
        exact ⟨rfl, by (repeat' (first | (with_reducible exact Below.refl _ _) | (with_reducible assumption) | (with_reducible refine balloc ?_ _) | (with_reducible refine Below.drew ?_) | (with_reducible refine bset ?_ ?_ _) | (with_reducible refine bstep ?_ (by with_reducible assumption)) | (with_reducible refine bturn ?_ (by with_reducible assumption) ?_) | go_size))⟩
      · rw [hb] at HE HL HR
        have he : (dayR y 2 29).e = 0 := by rw [HE.out, if_pos ⟨g1, g2, rfl⟩]
        have HE2 := Lib.hid he
        clear he
        go_enter Tryd.func7, Tryd.ntmps7
        go_wp2_with (first
          | (go_at_call 17; refine (HL.out _).mono ?_; rintro e w' ⟨rfl, rfl⟩)
          | (go_at_call 18; refine (HR.out _).mono ?_; rintro e w' ⟨rfl, rfl⟩)
          | (go_at_call 8; refine (day_any y 2 29 _).mono ?_; rintro e w' ⟨rfl, rfl⟩; rw [HE2.out])
          | (go_at_call 12; refine HA.out.mono ?_; rintro e w' ⟨rfl, hb'⟩))
        go_ret
        exact ⟨rfl, by (repeat' (first | (with_reducible exact Below.refl _ _) | (with_reducible assumption) | (with_reducible refine balloc ?_ _) | (with_reducible refine Below.drew ?_) | (with_reducible refine bset ?_ ?_ _) | (with_reducible refine bstep ?_ (by with_reducible assumption)) | (with_reducible refine bturn ?_ (by with_reducible assumption) ?_) | go_size))⟩
    · have he : (dayR y 2 29).e = 3 := by rw [HE.out, if_neg (by omega)]
      have HE2 := Lib.hid he
      clear he
      generalize leapB y = b at *
      go_enter Tryd.func7, Tryd.ntmps7
      go_wp2_with (first
        | (go_at_call 17; refine (HL.out _).mono ?_; rintro e w' ⟨rfl, rfl⟩)
        | (go_at_call 18; refine (HR.out _).mono ?_; rintro e w' ⟨rfl, rfl⟩)
        | (go_at_call 8; refine (day_any y 2 29 _).mono ?_; rintro e w' ⟨rfl, rfl⟩; rw [HE2.out])
        | (go_at_call 12; refine HA.out.mono ?_; rintro e w' ⟨rfl, hb'⟩))
      go_ret
      exact ⟨rfl, by (repeat' (first | (with_reducible exact Below.refl _ _) | (with_reducible assumption) | (with_reducible refine balloc ?_ _) | (with_reducible refine Below.drew ?_) | (with_reducible refine bset ?_ ?_ _) | (with_reducible refine bstep ?_ (by with_reducible assumption)) | (with_reducible refine bturn ?_ (by with_reducible assumption) ?_) | go_size))⟩
  · have he : (dayR y 2 29).e = 3 := by rw [HE.out, if_neg (by omega)]
    have HE2 := Lib.hid he
    clear he
    generalize leapB y = b at *
    go_enter Tryd.func7, Tryd.ntmps7
    go_wp2_with (first
      | (go_at_call 17; refine (HL.out _).mono ?_; rintro e w' ⟨rfl, rfl⟩)
      | (go_at_call 18; refine (HR.out _).mono ?_; rintro e w' ⟨rfl, rfl⟩)
      | (go_at_call 8; refine (day_any y 2 29 _).mono ?_; rintro e w' ⟨rfl, rfl⟩; rw [HE2.out])
      | (go_at_call 12; refine HA.out.mono ?_; rintro e w' ⟨rfl, hb'⟩))
    go_ret
    exact ⟨rfl, by (repeat' (first | (with_reducible exact Below.refl _ _) | (with_reducible assumption) | (with_reducible refine balloc ?_ _) | (with_reducible refine Below.drew ?_) | (with_reducible refine bset ?_ ?_ _) | (with_reducible refine bstep ?_ (by with_reducible assumption)) | (with_reducible refine bturn ?_ (by with_reducible assumption) ?_) | go_size))⟩

theorem rday_any (y m d : Int) (w : World) : Calls Tryd.prog 9 #[.int .i64 y, .int .i64 m, .int .i64 d] w fun e w' => e = .returned (.tuple #[.int .i64 (dayR y m d).n, .int .i64 (dayR y m d).e]) ∧ Below w.heap.size w w' := by
  unfold dayR
  by_cases h : okD y m d
  · rw [if_pos h]; exact rday_ok y m d h w
  · rw [if_neg h]; exact rday_bad y m d h w
/-- Both sides give one date. -/
theorem dates (n : Int) : ∃ a b c e : Int, (∀ w, Calls Tryd.prog 10 #[.int .i64 n] w fun x w' => x = .returned (.tuple #[.int .i64 a, .int .i64 b, .int .i64 c, .int .i64 e]) ∧ w = w') ∧ (∀ w, Calls Tryd.prog 11 #[.int .i64 n] w fun x w' => x = .returned (.tuple #[.int .i64 a, .int .i64 b, .int .i64 c, .int .i64 e]) ∧ Below w.heap.size w w') := by
  by_cases h : n < 0 ∨ 3652058 < n
  · exact ⟨0, 0, 0, 3, fun w => date_bad n h w, fun w => rdate_bad n h w⟩
  · obtain ⟨y, m, a, b, c, d, e, f, g⟩ := date_of n (by omega) (by omega)
    exact ⟨_, _, _, 0, fun w => date_ok n y m (by omega) (by omega) a b c d e f g w, fun w => rdate_ok n y m (by omega) (by omega) a b c d e f g w⟩

set_option maxHeartbeats 2000000 in
set_option maxRecDepth 100000 in
theorem daylaw_any (q y m d n : Int) (w : World) (hm : w.cell? ⟨2, 0, none⟩ = some (.int .i64 q)) (hlt : 2 < w.heap.size) (htab : Lib.TabIs Tryd.prog w "internal/strconv.uint64pow10" .u64 Lib.pow10Tab) :
    Calls Tryd.prog 3 #[.int .i64 y, .int .i64 m, .int .i64 d, .int .i64 n] w fun e w' => e = .returned (.bool true) ∧ Below w.heap.size w w' := by
  have HT := Lib.hid (Lib.tabBelow_of_tabIs htab)
  have HM : Hid (∀ w', Below w.heap.size w w' → w'.cell? ⟨2, 0, none⟩ = some (.int .i64 q)) := fun w' hb => ((bcell hb).1 _ _ hlt).trans hm
  obtain ⟨a, b, c, e, h1, h2⟩ := dates n
  have H1 := Lib.hid h1
  have H2 := Lib.hid h2
  clear h1 h2 htab hm hlt
  go_enter Tryd.func3, Tryd.ntmps3
  go_wp2_with fail
  refine (day_any y m d _).mono ?_
  rintro _ _ ⟨rfl, rfl⟩
  go_wp2_with fail
  refine (rday_any y m d _).mono ?_
  rintro _ w2 ⟨rfl, hb2⟩
  generalize dayR y m d = r at *
  go_wp2_with fail
  refine (H1.out _).mono ?_
  rintro _ _ ⟨rfl, rfl⟩
  go_wp2_with fail
  refine (H2.out _).mono ?_
  rintro _ w4 ⟨rfl, hb4⟩
  go_wp2_with fail
  refine (awake_any q _ (HM.out _ (by (repeat' (first | (with_reducible exact Below.refl _ _) | (with_reducible assumption) | (with_reducible refine balloc ?_ _) | (with_reducible refine Below.drew ?_) | (with_reducible refine bset ?_ ?_ _) | (with_reducible refine bstep ?_ (by with_reducible assumption)) | (with_reducible refine bturn ?_ (by with_reducible assumption) ?_) | go_size)))) (HT.out _ (by (repeat' (first | (with_reducible exact Below.refl _ _) | (with_reducible assumption) | (with_reducible refine balloc ?_ _) | (with_reducible refine Below.drew ?_) | (with_reducible refine bset ?_ ?_ _) | (with_reducible refine bstep ?_ (by with_reducible assumption)) | (with_reducible refine bturn ?_ (by with_reducible assumption) ?_) | go_size))))).mono ?_
  rintro _ w5 ⟨rfl, hb5⟩
  go_wp2
  go_ret
  exact ⟨by simp, by (repeat' (first | (with_reducible exact Below.refl _ _) | (with_reducible assumption) | (with_reducible refine balloc ?_ _) | (with_reducible refine Below.drew ?_) | (with_reducible refine bset ?_ ?_ _) | (with_reducible refine bstep ?_ (by with_reducible assumption)) | (with_reducible refine bturn ?_ (by with_reducible assumption) ?_) | go_size))⟩
end Go.Proofs.YtampednjcmekmaaDoor
