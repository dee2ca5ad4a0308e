/- What every law of package days calls (awake), and the walks of DaysLeap and DaysDay. -/
import Derived.Test.YtambpkkllgppdaaGreatDoorDaysQ
import Derived.Test.YtambpkkllgppdaaGreatDoorDaysC
namespace Go.Proofs.YtambpkkllgppdaaGreatDoor.Days
open Go.RowKit
open Go.Lib hiding intOf

theorem parse_awake (m : Int) (w : World) (hm : w.cell? ⟨0, 0, none⟩ = some (.int .i64 m)) :
    Calls Tryz.prog 34 #[.string ⟨#[50, 48, 48, 48, 45, 48, 51, 45, 48, 49]⟩] w fun e w' => e = .returned (.tuple #[.int .i64 730179, .int .i64 0]) ∧ Below w.heap.size w w' := by
  refine (parse_parts ⟨#[50, 48, 48, 48, 45, 48, 51, 45, 48, 49]⟩ ⟨#[50, 48, 48, 48]⟩ ⟨#[48, 51]⟩ ⟨#[48, 49]⟩ m (by decide) (by decide) (by decide) (by decide) (by decide +kernel) (by decide +kernel) w hm).mono ?_
  rintro e w' ⟨rfl, hb⟩
  exact ⟨by rw [show (parseR ⟨#[50, 48, 48, 48]⟩ ⟨#[48, 51]⟩ ⟨#[48, 49]⟩).n = 730179 by decide +kernel, show (parseR ⟨#[50, 48, 48, 48]⟩ ⟨#[48, 51]⟩ ⟨#[48, 49]⟩).e = 0 by decide +kernel], hb⟩
theorem text_awake (w : World) (htab : Lib.TabIs Tryz.prog w "internal/strconv.uint64pow10" .u64 Lib.pow10Tab) :
    Calls Tryz.prog 47 #[.int .i64 730119] w fun e w' => e = .returned (.tuple #[.string ⟨#[50, 48, 48, 48, 45, 48, 49, 45, 48, 49]⟩, .int .i64 0]) ∧ Below w.heap.size w w' := by
  refine (text_ok 730119 2000 0 (by decide) (by decide) (by decide) (by decide) (by decide) (by decide +kernel) (by decide +kernel) (by decide +kernel) (by decide +kernel) w htab).mono ?_
  rintro e w' ⟨rfl, hb⟩
  exact ⟨by rw [show (⟨(textL (2000 : Int).toNat (0 + 1) (730119 - firstS 2000 - cumS 2000 0 + 1).toNat).toArray⟩ : ByteArray) = ⟨#[50, 48, 48, 48, 45, 48, 49, 45, 48, 49]⟩ by decide +kernel], hb⟩

theorem leap_day (y : Int) : (dayR y 2 29).e = if 1 ≤ y ∧ y ≤ 9999 ∧ leapB y = true then 0 else 3 := by
  unfold dayR
  by_cases h : okD y 2 29
  · rw [if_pos h]
    obtain ⟨g1, g2, _, _, _, g6⟩ := h
    have : leapB y = true := by
      apply Classical.byContradiction
      intro hn
      unfold lenS at g6
      rw [if_pos rfl, if_neg hn] at g6
      omega
    rw [if_pos ⟨g1, g2, this⟩]
  · rw [if_neg h]
    rw [if_neg]
    rintro ⟨g1, g2, g3⟩
    apply h
    refine ⟨g1, g2, by omega, by omega, by omega, ?_⟩
    unfold lenS
    rw [if_pos rfl, if_pos g3]
    omega

theorem rday_any (y m d : Int) (w : World) : Calls Tryz.prog 68 #[.int .i64 y, .int .i64 m, .int .i64 d] w fun e w' => e = .returned (.tuple #[.int .i64 (dayR y m d).n, .int .i64 (dayR y m d).e]) ∧ Below w.heap.size w w' := by
  unfold dayR
  by_cases h : okD y m d
  · rw [if_pos h]; exact rday_ok y m d h w
  · rw [if_neg h]; exact rday_bad y m d h w
/-- Both sides give one date. -/
theorem dates (n : Int) : ∃ a b c e : Int, (∀ w, Calls Tryz.prog 75 #[.int .i64 n] w fun x w' => x = .returned (.tuple #[.int .i64 a, .int .i64 b, .int .i64 c, .int .i64 e]) ∧ w = w') ∧ (∀ w, Calls Tryz.prog 80 #[.int .i64 n] w fun x w' => x = .returned (.tuple #[.int .i64 a, .int .i64 b, .int .i64 c, .int .i64 e]) ∧ Below w.heap.size w w') := by
  by_cases h : n < 0 ∨ 3652058 < n
  · exact ⟨0, 0, 0, 3, fun w => date_bad n h w, fun w => rdate_bad n h w⟩
  · obtain ⟨y, m, a, b, c, d, e, f, g⟩ := date_of n (by omega) (by omega)
    exact ⟨_, _, _, 0, fun w => date_ok n y m (by omega) (by omega) a b c d e f g w, fun w => rdate_ok n y m (by omega) (by omega) a b c d e f g w⟩

end Go.Proofs.YtambpkkllgppdaaGreatDoor.Days
