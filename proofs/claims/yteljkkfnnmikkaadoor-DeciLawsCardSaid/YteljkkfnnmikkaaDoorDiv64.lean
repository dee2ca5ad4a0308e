/- The walk of bits.Div64. -/
import Derived.Test.YteljkkfnnmikkaaDoorDivMath
import Derived.Test.YteljkkfnnmikkaaDoorFmtA
import Derived.Lib.BitFns
import Derived.Laws.Bits64b
import Derived.Laws.Bits64
namespace Go.Proofs.YteljkkfnnmikkaaDoor
open Go.RowKit
open Go.Lib hiding intOf

theorem bitLen_bd : ∀ (k y : Nat), y < 2 ^ k → k ≤ 64 → 0 < y → 2 ^ (Lib.bitLen y - 1) ≤ y ∧ y < 2 ^ Lib.bitLen y ∧ 1 ≤ Lib.bitLen y ∧ Lib.bitLen y ≤ k
  | 0, y, h, _, h0 => by simp at h; omega
  | k + 1, y, h, hk, h0 => by
    have hy64 : y < 2 ^ 64 := Nat.lt_of_lt_of_le h (Nat.pow_le_pow_right (by decide) hk)
    rw [bitLen_half y (by omega) hy64]
    by_cases h1 : y / 2 = 0
    · rw [h1, show Lib.bitLen 0 = 0 from by decide]
      have : y = 1 := by omega
      subst this
      exact ⟨by decide, by decide, by decide, by omega⟩
    · obtain ⟨b1, b2, b3, b4⟩ := bitLen_bd k (y / 2) (by rw [Nat.pow_succ] at h; omega) (by omega) (by omega)
      obtain ⟨j, hj⟩ : ∃ j, Lib.bitLen (y / 2) = j + 1 := ⟨Lib.bitLen (y / 2) - 1, by omega⟩
      rw [hj] at b1 b2 b4 ⊢
      rw [Nat.add_sub_cancel] at b1
      refine ⟨?_, ?_, by omega, by omega⟩
      · rw [show 1 + (j + 1) - 1 = j + 1 by omega, Nat.pow_succ]; omega
      · rw [show 1 + (j + 1) = j + 1 + 1 by omega, Nat.pow_succ]; omega
/-- How far a divisor is shifted. -/
theorem lead_bd {y : Nat} (h : y < 2 ^ 64) (h0 : 0 < y) : ∃ z, 64 - Lib.bitLen y = z ∧ Lib.bitLen y ≤ 64 ∧ z ≤ 63 ∧ 2 ^ 63 ≤ y * 2 ^ z ∧ y * 2 ^ z < 2 ^ 64 := by
  obtain ⟨b1, b2, b3, b4⟩ := bitLen_bd 64 y h (Nat.le_refl _) h0
  refine ⟨64 - Lib.bitLen y, rfl, b4, by omega, ?_, ?_⟩
  · have : 2 ^ 63 = 2 ^ (Lib.bitLen y - 1) * 2 ^ (64 - Lib.bitLen y) := by rw [← Nat.pow_add]; congr 1; omega
    rw [this]
    exact Nat.mul_le_mul_right _ b1
  · have : 2 ^ 64 = 2 ^ Lib.bitLen y * 2 ^ (64 - Lib.bitLen y) := by rw [← Nat.pow_add]; congr 1; omega
    rw [this]
    exact Nat.mul_lt_mul_of_pos_right b2 (Nat.pow_pos (by decide))
theorem lz_any (y z : Nat) (h : y < 2 ^ 64) (hz : 64 - Lib.bitLen y = z) (hb : Lib.bitLen y ≤ 64) (w : World) :
    Calls Tryd.prog 64 #[.int .u64 (y : Int)] w fun e w' => e = .returned (.int .i64 (z : Int)) ∧ w = w' := by
  have h64 : (2 : Nat) ^ 64 = 18446744073709551616 := by decide
  have hl := fun w => Tryd.bits_Len64 (y : Int) w (by omega) (by omega)
  simp only [Int.toNat_natCast] at hl
  generalize Lib.bitLen y = b at *
  have HL := Lib.hid hl
  clear hl
  go_enter Tryd.func64, Tryd.ntmps64
  go_wp2_with fail
  refine (HL.out _).mono ?_
  rintro e w' ⟨rfl, rfl⟩
  go_wp2
  go_ret
  exact ⟨by rw [show ((z : Nat) : Int) = 64 - (b : Int) by omega]; rfl, rfl⟩

theorem div64_low (lo y u v : Nat) (hy : 0 < y) (hy64 : y < 18446744073709551616) (hl : lo < 18446744073709551616) (hu : lo / y = u) (hv : lo % y = v) (w : World) :
    Calls Tryd.prog 45 #[.int .u64 0, .int .u64 (lo : Int), .int .u64 (y : Int)] w fun e w' => e = .returned (.tuple #[.int .u64 (u : Int), .int .u64 (v : Int)]) ∧ Below w.heap.size w w' := by
  have hu64 : u < 18446744073709551616 := by rw [← hu]; exact Nat.lt_of_le_of_lt (Nat.div_le_self _ _) hl
  have hq : (lo : Int) / (y : Int) = (u : Int) := by rw [← hu]; rfl
  have hr : (lo : Int) % (y : Int) = (v : Int) := by rw [← hv]; rfl
  have hw : IntKind.u64.wrap (u : Int) = (u : Int) := IntWalk.u64_in _ (by omega)
  have hne : ¬ (y : Int) = 0 := by omega
  have HR := Lib.hid hr
  clear hu hv hr
  go_enter Tryd.func45, Tryd.ntmps45
  go_wp2_with fail
  go_region
  go_wp2
  go_returns
  exact ⟨by rw [← HR.out]; rfl, by (repeat' (first | (with_reducible exact Below.refl _ _) | (with_reducible assumption) | (with_reducible refine balloc ?_ _) | (with_reducible refine Below.drew ?_) | (with_reducible refine bset ?_ ?_ _) | (with_reducible refine bstep ?_ (by with_reducible assumption)) | (with_reducible refine bturn ?_ (by with_reducible assumption) ?_) | go_size))⟩

/-- All the numbers of one call. -/
structure D64 (hi lo y z Y H e L a t y1 y0 c1 c0 q1 b q0 d : Nat) : Prop where
  z63 : z ≤ 63
  hY : Y = y * 2 ^ z
  hH : H = hi * 2 ^ z
  he : e = 64 - z
  hL : L = lo / 2 ^ e
  ha : a = H + L
  hor : H ||| L = a
  ht : t = lo * 2 ^ z % 18446744073709551616
  hy1 : y1 = Y / 4294967296
  hy0 : y0 = Y % 4294967296
  hc1 : c1 = t / 4294967296
  hc0 : c0 = t % 4294967296
  Y1 : 9223372036854775808 ≤ Y
  Y2 : Y < 18446744073709551616
  aY : a < Y
  Q1 : Quo 4294967296 a c1 y1 y0 q1
  hb : a * 4294967296 + c1 = q1 * Y + b
  bY : b < Y
  Q0 : Quo 4294967296 b c0 y1 y0 q0
  hd : b * 4294967296 + c0 = q0 * Y + d
  dY : d < Y
  quo : q1 * 4294967296 + q0 = (hi * 18446744073709551616 + lo) / y
  rem : d / 2 ^ z = (hi * 18446744073709551616 + lo) % y

theorem tot_lin {S t th tl P b R d : Nat} (h1 : 4294967296 * th + tl = t) (h2 : P + b = S * 4294967296 + th) (h3 : R + d = b * 4294967296 + tl) : S * 18446744073709551616 + t = P * 4294967296 + R + d := by omega
set_option maxRecDepth 100000 in
theorem d64_ex {hi lo y : Nat} (hy : hi < y) (hy64 : y < 18446744073709551616) (hl : lo < 18446744073709551616) : ∃ z Y H e L a t y1 y0 c1 c0 q1 b q0 d, 64 - Lib.bitLen y = z ∧ Lib.bitLen y ≤ 64 ∧ D64 hi lo y z Y H e L a t y1 y0 c1 c0 q1 b q0 d := by
  have e64 : (2 : Nat) ^ 64 = 18446744073709551616 := by decide
  have e63 : (2 : Nat) ^ 63 = 9223372036854775808 := by decide
  obtain ⟨z, hz, hb, z63, Y1, Y2⟩ := lead_bd (y := y) (by rw [e64]; exact hy64) (by omega)
  rw [e63] at Y1
  rw [e64] at Y2
  obtain ⟨Y, hY⟩ : ∃ Y, Y = y * 2 ^ z := ⟨_, rfl⟩
  obtain ⟨e, he⟩ : ∃ e, e = 64 - z := ⟨_, rfl⟩
  obtain ⟨L, hL⟩ : ∃ L, L = lo / 2 ^ e := ⟨_, rfl⟩
  obtain ⟨H, hH⟩ : ∃ H, H = hi * 2 ^ z := ⟨_, rfl⟩
  obtain ⟨t, ht⟩ : ∃ t, t = lo * 2 ^ z % 18446744073709551616 := ⟨_, rfl⟩
  have hp : 0 < 2 ^ z := Nat.pow_pos (by decide)
  have hpe : 0 < 2 ^ e := Nat.pow_pos (by decide)
  have hez : 2 ^ e * 2 ^ z = 18446744073709551616 := by rw [← Nat.pow_add, he, show 64 - z + z = 64 by omega, e64]
  have hLz : L < 2 ^ z := by
    rw [hL, Nat.div_lt_iff_lt_mul hpe, Nat.mul_comm, hez]
    exact hl
  have hor : H ||| L = H + L := by
    rw [hH, Nat.mul_comm]
    exact (Nat.two_pow_add_eq_or_of_lt hLz hi).symm
  have hlo : lo * 2 ^ z = L * 18446744073709551616 + t := by
    have h1 : lo * 2 ^ z / 18446744073709551616 = L := by rw [hL, ← hez, Nat.mul_div_mul_right _ _ hp]
    have h2 := Nat.div_add_mod (lo * 2 ^ z) 18446744073709551616
    rw [h1, ← ht] at h2
    omega
  have hX : (hi * 18446744073709551616 + lo) * 2 ^ z = (H + L) * 18446744073709551616 + t := by
    rw [Nat.add_mul, hlo, hH, Nat.add_mul]
    have : hi * 18446744073709551616 * 2 ^ z = hi * 2 ^ z * 18446744073709551616 := Nat.mul_right_comm hi 18446744073709551616 (2 ^ z)
    omega
  have ht64 : t < 18446744073709551616 := by rw [ht]; exact Nat.mod_lt _ (by decide)
  have haY : H + L < Y := by
    have h1 : (hi * 18446744073709551616 + lo) * 2 ^ z < (y * 18446744073709551616) * 2 ^ z := Nat.mul_lt_mul_of_pos_right (by omega) hp
    have h2 : (y * 18446744073709551616) * 2 ^ z = Y * 18446744073709551616 := by rw [hY]; exact Nat.mul_right_comm y 18446744073709551616 (2 ^ z)
    rw [hX, h2] at h1
    omega
  rw [← hY] at Y1 Y2
  have hYd := Nat.div_add_mod Y 4294967296
  have hYm := Nat.mod_lt Y (show 0 < 4294967296 by decide)
  have hY' : Y / 4294967296 * 4294967296 + Y % 4294967296 = Y := by omega
  have htm := Nat.mod_lt t (show 0 < 4294967296 by decide)
  have htd := Nat.div_add_mod t 4294967296
  have Q1 : Quo 4294967296 (H + L) (t / 4294967296) (Y / 4294967296) (Y % 4294967296) (((H + L) * 4294967296 + t / 4294967296) / Y) := by
    have := Quo.of (B := 4294967296) (a := H + L) (c := t / 4294967296) (y1 := Y / 4294967296) (y0 := Y % 4294967296) (by omega) (by omega) hYm (by omega) (by omega)
    rw [hY'] at this
    exact this
  have hY0 : 0 < Y := by omega
  have hbd := Nat.mod_lt ((H + L) * 4294967296 + t / 4294967296) hY0
  have hbe := Nat.div_add_mod ((H + L) * 4294967296 + t / 4294967296) Y
  rw [Nat.mul_comm] at hbe
  generalize hq1 : ((H + L) * 4294967296 + t / 4294967296) / Y = q1 at *
  generalize hb1 : ((H + L) * 4294967296 + t / 4294967296) % Y = b at *
  have Q0 : Quo 4294967296 b (t % 4294967296) (Y / 4294967296) (Y % 4294967296) ((b * 4294967296 + t % 4294967296) / Y) := by
    have := Quo.of (B := 4294967296) (a := b) (c := t % 4294967296) (y1 := Y / 4294967296) (y0 := Y % 4294967296) (by omega) htm hYm (by omega) (by omega)
    rw [hY'] at this
    exact this
  have hdd := Nat.mod_lt (b * 4294967296 + t % 4294967296) hY0
  have hde := Nat.div_add_mod (b * 4294967296 + t % 4294967296) Y
  rw [Nat.mul_comm] at hde
  obtain ⟨q0, hq0⟩ : ∃ q0, q0 = (b * 4294967296 + t % 4294967296) / Y := ⟨_, rfl⟩
  obtain ⟨d, hd1⟩ : ∃ d, d = (b * 4294967296 + t % 4294967296) % Y := ⟨_, rfl⟩
  rw [← hq0] at Q0 hde
  rw [← hd1] at hdd hde
  have htot : (hi * 18446744073709551616 + lo) * 2 ^ z = (q1 * 4294967296 + q0) * Y + d := by
    have e1 : (q1 * 4294967296 + q0) * Y = q1 * Y * 4294967296 + q0 * Y := by rw [Nat.add_mul, Nat.mul_right_comm]
    rw [hX, e1]
    exact tot_lin htd hbe hde
  have hquo : (q1 * 4294967296 + q0) = (hi * 18446744073709551616 + lo) / y := by
    rw [← Nat.mul_div_mul_right _ _ hp, htot, ← hY]
    symm
    apply Nat.div_eq_of_lt_le
    · exact Nat.le_add_right _ _
    · rw [Nat.succ_mul]
      exact Nat.add_lt_add_left hdd _
  have hrem : d / 2 ^ z = (hi * 18446744073709551616 + lo) % y := by
    have h1 : (hi * 18446744073709551616 + lo) * 2 ^ z % (y * 2 ^ z) = (hi * 18446744073709551616 + lo) % y * 2 ^ z := Nat.mul_mod_mul_right _ _ _
    rw [htot, ← hY, Nat.add_comm, Nat.add_mul_mod_self_right, Nat.mod_eq_of_lt hdd] at h1
    rw [h1, Nat.mul_div_cancel _ hp]
  exact ⟨z, Y, H, e, L, H + L, t, Y / 4294967296, Y % 4294967296, t / 4294967296, t % 4294967296, q1, b, q0, d, hz, hb, ⟨z63, hY, hH, he, hL, rfl, hor, ht, rfl, rfl, rfl, rfl, Y1, Y2, haY, Q1, hbe.symm, hbd, Q0, hde.symm, hdd, hquo, hrem⟩⟩
end Go.Proofs.YteljkkfnnmikkaaDoor
