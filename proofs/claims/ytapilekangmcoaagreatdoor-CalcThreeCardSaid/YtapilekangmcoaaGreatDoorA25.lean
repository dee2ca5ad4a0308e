/- The walk of bits.Div64. The walk of bits.Div64 where the upper word is not nought. The walks of even and Div at every two numbers. The walks of Div, at every two numbers. The walks of Mul, at every two numbers. -/
import Derived.Lib.BitFns
import Derived.Laws.Bits64b
import Derived.Laws.Bits64
import Derived.Test.YtapilekangmcoaaGreatDoorA1
import Derived.Test.YtapilekangmcoaaGreatDoorA11
import Derived.Test.YtapilekangmcoaaGreatDoorA10
set_option linter.unusedVariables false
set_option linter.unusedSimpArgs false
set_option maxHeartbeats 8000000
set_option maxRecDepth 100000
namespace Go.Proofs.YtapilekangmcoaaGreatDoor.Dq
open Go.RowKit
open Go.Lib hiding intOf
theorem bitLen_bd : ∀ (k y : Nat), y < 2 ^ k → k ≤ 64 → 0 < y → 2 ^ (Lib.bitLen y - 1) ≤ y ∧ y < 2 ^ Lib.bitLen y ∧ 1 ≤ Lib.bitLen y ∧ Lib.bitLen y ≤ k
 | 0, y, h, _, h0 => by simp at h; omega
 | k + 1, y, h, hk, h0 => by
   have hy64 : y < 2 ^ 64 := Nat.lt_of_lt_of_le h (Nat.pow_le_pow_right (by decide) hk)
   rw [bitLen_half y (by omega) hy64]
   by_cases h1 : y / 2 = 0
   · rw [h1, show Lib.bitLen 0 = 0 from by decide]
     have : y = 1 := by omega
     subst this
     exact ⟨by decide, by decide, by decide, by omega⟩
   · obtain ⟨b1, b2, b3, b4⟩ := bitLen_bd k (y / 2) (by rw [Nat.pow_succ] at h; omega) (by omega) (by omega)
     obtain ⟨j, hj⟩ : ∃ j, Lib.bitLen (y / 2) = j + 1 := ⟨Lib.bitLen (y / 2) - 1, by omega⟩
     rw [hj] at b1 b2 b4 ⊢
     rw [Nat.add_sub_cancel] at b1
     refine ⟨?_, ?_, by omega, by omega⟩
     · rw [show 1 + (j + 1) - 1 = j + 1 by omega, Nat.pow_succ]; omega
     · rw [show 1 + (j + 1) = j + 1 + 1 by omega, Nat.pow_succ]; omega
/-- How far a divisor is shifted. -/
theorem lead_bd {y : Nat} (h : y < 2 ^ 64) (h0 : 0 < y) : ∃ z, 64 - Lib.bitLen y = z ∧ Lib.bitLen y ≤ 64 ∧ z ≤ 63 ∧ 2 ^ 63 ≤ y * 2 ^ z ∧ y * 2 ^ z < 2 ^ 64 := by
 obtain ⟨b1, b2, b3, b4⟩ := bitLen_bd 64 y h (Nat.le_refl _) h0
 refine ⟨64 - Lib.bitLen y, rfl, b4, by omega, ?_, ?_⟩
 · have : 2 ^ 63 = 2 ^ (Lib.bitLen y - 1) * 2 ^ (64 - Lib.bitLen y) := by rw [← Nat.pow_add]; congr 1; omega
   rw [this]
   exact Nat.mul_le_mul_right _ b1
 · have : 2 ^ 64 = 2 ^ Lib.bitLen y * 2 ^ (64 - Lib.bitLen y) := by rw [← Nat.pow_add]; congr 1; omega
   rw [this]
   exact Nat.mul_lt_mul_of_pos_right b2 (Nat.pow_pos (by decide))
theorem lz_any (y z : Nat) (h : y < 2 ^ 64) (hz : 64 - Lib.bitLen y = z) (hb : Lib.bitLen y ≤ 64) (w : World) :
   Calls Tryz.prog 189 #[.int .u64 (y : Int)] w fun e w' => e = .returned (.int .i64 (z : Int)) ∧ w = w' := by
 have h64 : (2 : Nat) ^ 64 = 18446744073709551616 := by decide
 have hl := fun w => Tryz.bits_Len64 (y : Int) w (by omega) (by omega)
 simp only [Int.toNat_natCast] at hl
 generalize Lib.bitLen y = b at *
 have HL := Lib.hid hl
 clear hl
 go_enter Tryz.func189, Tryz.ntmps189
 go_wp2_with fail
 refine (HL.out _).mono ?_
 rintro e w' ⟨rfl, rfl⟩
 go_wp2
 go_ret
 exact ⟨by rw [show ((z : Nat) : Int) = 64 - (b : Int) by omega]; rfl, rfl⟩
theorem div64_low (lo y u v : Nat) (hy : 0 < y) (hy64 : y < 18446744073709551616) (hl : lo < 18446744073709551616) (hu : lo / y = u) (hv : lo % y = v) (w : World) :
   Calls Tryz.prog 163 #[.int .u64 0, .int .u64 (lo : Int), .int .u64 (y : Int)] w fun e w' => e = .returned (.tuple #[.int .u64 (u : Int), .int .u64 (v : Int)]) ∧ Below w.heap.size w w' := by
 have hu64 : u < 18446744073709551616 := by rw [← hu]; exact Nat.lt_of_le_of_lt (Nat.div_le_self _ _) hl
 have hq : (lo : Int) / (y : Int) = (u : Int) := by rw [← hu]; rfl
 have hr : (lo : Int) % (y : Int) = (v : Int) := by rw [← hv]; rfl
 have hw : IntKind.u64.wrap (u : Int) = (u : Int) := IntWalk.u64_in _ (by omega)
 have hne : ¬ (y : Int) = 0 := by omega
 have HR := Lib.hid hr
 clear hu hv hr
 go_enter Tryz.func163, Tryz.ntmps163
 go_wp2_with fail
 go_region
 go_wp2
 go_returns
 exact ⟨by rw [← HR.out]; rfl, by (repeat' first | (with_reducible first | exact .refl _ _ | assumption | apply balloc | apply Below.drew | apply bset | refine bstep ?_ ‹_› | refine bturn ?_ ‹_› ?_) | go_size)⟩
/-- All the numbers of one call. -/
structure D64 (hi lo y z Y H e L a t y1 y0 c1 c0 q1 b q0 d : Nat) : Prop where
 z63 : z ≤ 63
 hY : Y = y * 2 ^ z
 hH : H = hi * 2 ^ z
 he : e = 64 - z
 hL : L = lo / 2 ^ e
 ha : a = H + L
 hor : H ||| L = a
 ht : t = lo * 2 ^ z % 18446744073709551616
 hy1 : y1 = Y / 4294967296
 hy0 : y0 = Y % 4294967296
 hc1 : c1 = t / 4294967296
 hc0 : c0 = t % 4294967296
 Y1 : 9223372036854775808 ≤ Y
 Y2 : Y < 18446744073709551616
 aY : a < Y
 Q1 : Quo 4294967296 a c1 y1 y0 q1
 hb : a * 4294967296 + c1 = q1 * Y + b
 bY : b < Y
 Q0 : Quo 4294967296 b c0 y1 y0 q0
 hd : b * 4294967296 + c0 = q0 * Y + d
 dY : d < Y
 quo : q1 * 4294967296 + q0 = (hi * 18446744073709551616 + lo) / y
 rem : d / 2 ^ z = (hi * 18446744073709551616 + lo) % y
theorem tot_lin {S t th tl P b R d : Nat} (h1 : 4294967296 * th + tl = t) (h2 : P + b = S * 4294967296 + th) (h3 : R + d = b * 4294967296 + tl) : S * 18446744073709551616 + t = P * 4294967296 + R + d := by omega
theorem d64_ex {hi lo y : Nat} (hy : hi < y) (hy64 : y < 18446744073709551616) (hl : lo < 18446744073709551616) : ∃ z Y H e L a t y1 y0 c1 c0 q1 b q0 d, 64 - Lib.bitLen y = z ∧ Lib.bitLen y ≤ 64 ∧ D64 hi lo y z Y H e L a t y1 y0 c1 c0 q1 b q0 d := by
 have e64 : (2 : Nat) ^ 64 = 18446744073709551616 := by decide
 have e63 : (2 : Nat) ^ 63 = 9223372036854775808 := by decide
 obtain ⟨z, hz, hb, z63, Y1, Y2⟩ := lead_bd (y := y) (by rw [e64]; exact hy64) (by omega)
 rw [e63] at Y1
 rw [e64] at Y2
 obtain ⟨Y, hY⟩ : ∃ Y, Y = y * 2 ^ z := ⟨_, rfl⟩
 obtain ⟨e, he⟩ : ∃ e, e = 64 - z := ⟨_, rfl⟩
 obtain ⟨L, hL⟩ : ∃ L, L = lo / 2 ^ e := ⟨_, rfl⟩
 obtain ⟨H, hH⟩ : ∃ H, H = hi * 2 ^ z := ⟨_, rfl⟩
 obtain ⟨t, ht⟩ : ∃ t, t = lo * 2 ^ z % 18446744073709551616 := ⟨_, rfl⟩
 have hp : 0 < 2 ^ z := Nat.pow_pos (by decide)
 have hpe : 0 < 2 ^ e := Nat.pow_pos (by decide)
 have hez : 2 ^ e * 2 ^ z = 18446744073709551616 := by rw [← Nat.pow_add, he, show 64 - z + z = 64 by omega, e64]
 have hLz : L < 2 ^ z := by
   rw [hL, Nat.div_lt_iff_lt_mul hpe, Nat.mul_comm, hez]
   exact hl
 have hor : H ||| L = H + L := by
   rw [hH, Nat.mul_comm]
   exact (Nat.two_pow_add_eq_or_of_lt hLz hi).symm
 have hlo : lo * 2 ^ z = L * 18446744073709551616 + t := by
   have h1 : lo * 2 ^ z / 18446744073709551616 = L := by rw [hL, ← hez, Nat.mul_div_mul_right _ _ hp]
   have h2 := Nat.div_add_mod (lo * 2 ^ z) 18446744073709551616
   rw [h1, ← ht] at h2
   omega
 have hX : (hi * 18446744073709551616 + lo) * 2 ^ z = (H + L) * 18446744073709551616 + t := by
   rw [Nat.add_mul, hlo, hH, Nat.add_mul]
   have : hi * 18446744073709551616 * 2 ^ z = hi * 2 ^ z * 18446744073709551616 := Nat.mul_right_comm hi 18446744073709551616 (2 ^ z)
   omega
 have ht64 : t < 18446744073709551616 := by rw [ht]; exact Nat.mod_lt _ (by decide)
 have haY : H + L < Y := by
   have h1 : (hi * 18446744073709551616 + lo) * 2 ^ z < (y * 18446744073709551616) * 2 ^ z := Nat.mul_lt_mul_of_pos_right (by omega) hp
   have h2 : (y * 18446744073709551616) * 2 ^ z = Y * 18446744073709551616 := by rw [hY]; exact Nat.mul_right_comm y 18446744073709551616 (2 ^ z)
   rw [hX, h2] at h1
   omega
 rw [← hY] at Y1 Y2
 have hYd := Nat.div_add_mod Y 4294967296
 have hYm := Nat.mod_lt Y (show 0 < 4294967296 by decide)
 have hY' : Y / 4294967296 * 4294967296 + Y % 4294967296 = Y := by omega
 have htm := Nat.mod_lt t (show 0 < 4294967296 by decide)
 have htd := Nat.div_add_mod t 4294967296
 have Q1 : Quo 4294967296 (H + L) (t / 4294967296) (Y / 4294967296) (Y % 4294967296) (((H + L) * 4294967296 + t / 4294967296) / Y) := by
   have := Quo.of (B := 4294967296) (a := H + L) (c := t / 4294967296) (y1 := Y / 4294967296) (y0 := Y % 4294967296) (by omega) (by omega) hYm (by omega) (by omega)
   rw [hY'] at this
   exact this
 have hY0 : 0 < Y := by omega
 have hbd := Nat.mod_lt ((H + L) * 4294967296 + t / 4294967296) hY0
 have hbe := Nat.div_add_mod ((H + L) * 4294967296 + t / 4294967296) Y
 rw [Nat.mul_comm] at hbe
 generalize hq1 : ((H + L) * 4294967296 + t / 4294967296) / Y = q1 at *
 generalize hb1 : ((H + L) * 4294967296 + t / 4294967296) % Y = b at *
 have Q0 : Quo 4294967296 b (t % 4294967296) (Y / 4294967296) (Y % 4294967296) ((b * 4294967296 + t % 4294967296) / Y) := by
   have := Quo.of (B := 4294967296) (a := b) (c := t % 4294967296) (y1 := Y / 4294967296) (y0 := Y % 4294967296) (by omega) htm hYm (by omega) (by omega)
   rw [hY'] at this
   exact this
 have hdd := Nat.mod_lt (b * 4294967296 + t % 4294967296) hY0
 have hde := Nat.div_add_mod (b * 4294967296 + t % 4294967296) Y
 rw [Nat.mul_comm] at hde
 obtain ⟨q0, hq0⟩ : ∃ q0, q0 = (b * 4294967296 + t % 4294967296) / Y := ⟨_, rfl⟩
 obtain ⟨d, hd1⟩ : ∃ d, d = (b * 4294967296 + t % 4294967296) % Y := ⟨_, rfl⟩
 rw [← hq0] at Q0 hde
 rw [← hd1] at hdd hde
 have htot : (hi * 18446744073709551616 + lo) * 2 ^ z = (q1 * 4294967296 + q0) * Y + d := by
   have e1 : (q1 * 4294967296 + q0) * Y = q1 * Y * 4294967296 + q0 * Y := by rw [Nat.add_mul, Nat.mul_right_comm]
   rw [hX, e1]
   exact tot_lin htd hbe hde
 have hquo : (q1 * 4294967296 + q0) = (hi * 18446744073709551616 + lo) / y := by
   rw [← Nat.mul_div_mul_right _ _ hp, htot, ← hY]
   symm
   apply Nat.div_eq_of_lt_le
   · exact Nat.le_add_right _ _
   · rw [Nat.succ_mul]
     exact Nat.add_lt_add_left hdd _
 have hrem : d / 2 ^ z = (hi * 18446744073709551616 + lo) % y := by
   have h1 : (hi * 18446744073709551616 + lo) * 2 ^ z % (y * 2 ^ z) = (hi * 18446744073709551616 + lo) % y * 2 ^ z := Nat.mul_mod_mul_right _ _ _
   rw [htot, ← hY, Nat.add_comm, Nat.add_mul_mod_self_right, Nat.mod_eq_of_lt hdd] at h1
   rw [h1, Nat.mul_div_cancel _ hp]
 exact ⟨z, Y, H, e, L, H + L, t, Y / 4294967296, Y % 4294967296, t / 4294967296, t % 4294967296, q1, b, q0, d, hz, hb, ⟨z63, hY, hH, he, hL, rfl, hor, ht, rfl, rfl, rfl, rfl, Y1, Y2, haY, Q1, hbe.symm, hbd, Q0, hde.symm, hdd, hquo, hrem⟩⟩
end Go.Proofs.YtapilekangmcoaaGreatDoor.Dq
namespace Go.Proofs.YtapilekangmcoaaGreatDoor.Dq
open Go.RowKit
open Go.Lib hiding intOf
theorem cast_shl (x z : Nat) : (x : Int) * 2 ^ z = ((x * 2 ^ z : Nat) : Int) := by rw [Int.natCast_mul, Int.natCast_pow]; rfl
theorem and_low (x : Nat) (h : x < 18446744073709551616) : bits .and .u64 (x : Int) 4294967295 = ((x % 4294967296 : Nat) : Int) := by
 have h1 := bits_and_u64_nat x 4294967295 h (by decide)
 have h2 : x &&& 4294967295 = x % 4294967296 := Nat.and_two_pow_sub_one_eq_mod x 32
 rw [h2] at h1
 exact h1
theorem sub_wrap {x y u v r : Nat} (hx : u = x % 18446744073709551616) (hy : v = y % 18446744073709551616) (h : x = y + r) (hr : r < 18446744073709551616) : IntKind.u64.wrap ((u : Int) - (v : Int)) = (r : Int) := by
 rw [IntKind.wrap_u64]
 omega
theorem div64_high {hi lo y z Y H e L a t y1 y0 c1 c0 q1 b q0 d : Nat} (D : D64 hi lo y z Y H e L a t y1 y0 c1 c0 q1 b q0 d) (hh : 0 < hi) (hy : hi < y) (hy64 : y < 18446744073709551616) (hl : lo < 18446744073709551616) (hz : 64 - Lib.bitLen y = z) (hb : Lib.bitLen y ≤ 64) (u v : Nat) (hu : (hi * 18446744073709551616 + lo) / y = u) (hv : (hi * 18446744073709551616 + lo) % y = v) (w : World) :
   Calls Tryz.prog 163 #[.int .u64 (hi : Int), .int .u64 (lo : Int), .int .u64 (y : Int)] w fun e w' => e = .returned (.tuple #[.int .u64 (u : Int), .int .u64 (v : Int)]) ∧ Below w.heap.size w w' := by
 have HZ := Lib.hid (lz_any y z (by rw [show (2 : Nat) ^ 64 = 18446744073709551616 by decide]; exact hy64) hz hb)
 have z63 := D.z63
 have Y1 := D.Y1
 have Y2 := D.Y2
 have aY := D.aY
 have bY := D.bY
 have dY := D.dY
 have H1 := D.Q1.h1
 have H1b := D.Q1.h1b
 have h0 := D.Q1.h0
 have hc := D.Q1.hc
 have hc0 := D.Q0.hc
 have hq1s := D.Q1.small
 have hq0s := D.Q0.small
 have hHa : H ≤ a := by have := D.ha; omega
 have hLa : L ≤ a := by have := D.ha; omega
 have t64 : t < 18446744073709551616 := by rw [D.ht]; exact Nat.mod_lt _ (by decide)
 have fz : IntKind.u64.wrap (z : Int) = (z : Int) := IntWalk.u64_in _ (by omega)
 have fmz : min z 64 = z := by omega
 have fY : IntKind.u64.wrap ((y : Int) * 2 ^ z) = (Y : Int) := by rw [cast_shl, ← D.hY]; exact IntWalk.u64_in _ (by omega)
 have fH : IntKind.u64.wrap ((hi : Int) * 2 ^ z) = (H : Int) := by rw [cast_shl, ← D.hH]; exact IntWalk.u64_in _ (by omega)
 have fe : IntKind.u64.wrap (64 - (z : Int)) = (e : Int) := by rw [show 64 - (z : Int) = (e : Int) by have := D.he; omega]; exact IntWalk.u64_in _ (by have := D.he; omega)
 have fme : min e 64 = e := by have := D.he; omega
 have fL : (lo : Int) / 2 ^ e = (L : Int) := by rw [D.hL, Int.natCast_ediv, Int.natCast_pow]; rfl
 have fo : bits .or .u64 (H : Int) (L : Int) = (a : Int) := by rw [bits_or_u64_nat H L (by omega) (by omega), D.hor]
 have ft : IntKind.u64.wrap ((lo : Int) * 2 ^ z) = (t : Int) := by rw [cast_shl, IntKind.wrap_u64, D.ht]; omega
 have fy0 : bits .and .u64 (Y : Int) 4294967295 = (y0 : Int) := by rw [and_low Y Y2, D.hy0]
 have fc0 : bits .and .u64 (t : Int) 4294967295 = (c0 : Int) := by rw [and_low t t64, D.hc0]
 have fy1 : (Y : Int) / 4294967296 = (y1 : Int) := by rw [D.hy1]; omega
 have fc1 : (t : Int) / 4294967296 = (c1 : Int) := by rw [D.hc1]; omega
 have fyz : ¬ (y1 : Int) = 0 := by omega
 obtain ⟨x0, hx0⟩ : ∃ x0, a / y1 = x0 := ⟨_, rfl⟩
 obtain ⟨p0, hp0⟩ : ∃ p0, a % y1 = p0 := ⟨_, rfl⟩
 have T0 := Trial.start D.Q1
 rw [hx0, hp0] at T0
 have hx0l := T0.le
 have hp0l : p0 < y1 := by rw [← hp0]; exact Nat.mod_lt _ (by omega)
 obtain ⟨m0, hm0⟩ : ∃ m0, x0 * y1 = m0 := ⟨_, rfl⟩
 have hm0a : m0 + p0 = a := by rw [← hm0]; exact T0.eq
 have fx : (a : Int) / (y1 : Int) = (x0 : Int) := by rw [← hx0]; rfl
 have fxw : IntKind.u64.wrap (x0 : Int) = (x0 : Int) := IntWalk.u64_in _ (by omega)
 have fm0 : IntKind.u64.wrap ((x0 : Int) * (y1 : Int)) = (m0 : Int) := by rw [show (x0 : Int) * (y1 : Int) = (m0 : Int) by rw [← hm0, Int.natCast_mul]]; exact IntWalk.u64_in _ (by omega)
 have fp0 : IntKind.u64.wrap ((a : Int) - (m0 : Int)) = (p0 : Int) := by rw [show (a : Int) - (m0 : Int) = (p0 : Int) by omega]; exact IntWalk.u64_in _ (by omega)
 obtain ⟨m1, hm1⟩ : ∃ m1, a * 4294967296 % 18446744073709551616 = m1 := ⟨_, rfl⟩
 obtain ⟨m2, hm2⟩ : ∃ m2, (a * 4294967296 + c1) % 18446744073709551616 = m2 := ⟨_, rfl⟩
 obtain ⟨m3, hm3⟩ : ∃ m3, q1 * Y % 18446744073709551616 = m3 := ⟨_, rfl⟩
 have g1 : IntKind.u64.wrap ((a : Int) * 4294967296) = (m1 : Int) := by rw [IntKind.wrap_u64]; omega
 have g2 : IntKind.u64.wrap ((m1 : Int) + (c1 : Int)) = (m2 : Int) := by rw [IntKind.wrap_u64]; omega
 have g3 : IntKind.u64.wrap ((q1 : Int) * (Y : Int)) = (m3 : Int) := by rw [IntKind.wrap_u64, ← Int.natCast_mul, ← hm3]; rfl
 have g4 : IntKind.u64.wrap ((m2 : Int) - (m3 : Int)) = (b : Int) := sub_wrap hm2.symm hm3.symm D.hb (by omega)
 obtain ⟨m5, hm5⟩ : ∃ m5, b * 4294967296 % 18446744073709551616 = m5 := ⟨_, rfl⟩
 obtain ⟨m6, hm6⟩ : ∃ m6, (b * 4294967296 + c0) % 18446744073709551616 = m6 := ⟨_, rfl⟩
 obtain ⟨m7, hm7⟩ : ∃ m7, q0 * Y % 18446744073709551616 = m7 := ⟨_, rfl⟩
 have g7 : IntKind.u64.wrap ((b : Int) * 4294967296) = (m5 : Int) := by rw [IntKind.wrap_u64]; omega
 have g8 : IntKind.u64.wrap ((m5 : Int) + (c0 : Int)) = (m6 : Int) := by rw [IntKind.wrap_u64]; omega
 have g9 : IntKind.u64.wrap ((q0 : Int) * (Y : Int)) = (m7 : Int) := by rw [IntKind.wrap_u64, ← Int.natCast_mul, ← hm7]; rfl
 have g10 : IntKind.u64.wrap ((m6 : Int) - (m7 : Int)) = (d : Int) := sub_wrap hm6.symm hm7.symm D.hd (by omega)
 have g11 : (d : Int) / 2 ^ z = (v : Int) := by rw [← hv, ← D.rem, Int.natCast_ediv, Int.natCast_pow]; rfl
 have g5 : IntKind.u64.wrap ((q1 : Int) * 4294967296) = (q1 : Int) * 4294967296 := IntWalk.u64_in _ (by omega)
 have g6 : IntKind.u64.wrap ((q1 : Int) * 4294967296 + (q0 : Int)) = (u : Int) := by
   rw [show (q1 : Int) * 4294967296 + (q0 : Int) = (u : Int) by rw [← hu, ← D.quo]; omega]
   exact IntWalk.u64_in _ (by have := D.quo; omega)
 obtain ⟨x1, hx1⟩ : ∃ x1, b / y1 = x1 := ⟨_, rfl⟩
 obtain ⟨p1, hp1⟩ : ∃ p1, b % y1 = p1 := ⟨_, rfl⟩
 have T1 := Trial.start D.Q0
 rw [hx1, hp1] at T1
 have hx1l := T1.le
 have hp1l : p1 < y1 := by rw [← hp1]; exact Nat.mod_lt _ (by omega)
 obtain ⟨m4, hm4⟩ : ∃ m4, x1 * y1 = m4 := ⟨_, rfl⟩
 have hm4b : m4 + p1 = b := by rw [← hm4]; exact T1.eq
 have r1 : (b : Int) / (y1 : Int) = (x1 : Int) := by rw [← hx1]; rfl
 have r2 : IntKind.u64.wrap (x1 : Int) = (x1 : Int) := IntWalk.u64_in _ (by omega)
 have r3 : IntKind.u64.wrap ((x1 : Int) * (y1 : Int)) = (m4 : Int) := by rw [show (x1 : Int) * (y1 : Int) = (m4 : Int) by rw [← hm4, Int.natCast_mul]]; exact IntWalk.u64_in _ (by omega)
 have r4 : IntKind.u64.wrap ((b : Int) - (m4 : Int)) = (p1 : Int) := by rw [show (b : Int) - (m4 : Int) = (p1 : Int) by omega]; exact IntWalk.u64_in _ (by omega)
 clear hm1 hm2 hm3 hm5 hm6 hm7 hx1 hp1 hm4
 have HT1 := Lib.hid T1
 have HT0 := Lib.hid T0
 have HD := Lib.hid D
 have HUV := Lib.hid (And.intro hu hv)
 have hne : ¬ (y : Int) = 0 := by omega
 have hy9 : ¬ (y : Int) ≤ (hi : Int) := by omega
 have hh0 : ¬ (hi : Int) = 0 := by omega
 clear hz hb hx0 hp0 hm0 T0 T1 D hu hv
 go_enter Tryz.func163, Tryz.ntmps163
 go_wp2_with fail
 refine (HZ.out _).mono ?_
 rintro _ w' ⟨rfl, rfl⟩
 go_wp2_with fail
 go_loop [15, 16] (fun vx vp => ∃ x p : Nat, vx = .int .u64 (x : Int) ∧ vp = .int .u64 (p : Int) ∧ p < 4294967296 ∧ Trial 4294967296 a c1 y1 y0 q1 x p) (fun vx _ => (intOf vx).toNat)
 case atStart => exact ⟨x0, p0, rfl, rfl, by omega, HT0.out⟩
 case round =>
   obtain ⟨x, p, rfl, rfl, hp, hT⟩ := hrel
   have HT := Lib.hid hT
   have hxl := hT.le
   clear hT
   obtain ⟨n0, hn0⟩ : ∃ n0, x * y0 = n0 := ⟨_, rfl⟩
   have HN0 := Lib.hid hn0
   by_cases hbig : 4294967296 ≤ x ∨ 4294967296 * p + c1 < n0
   · have hov := HT.out.over HD.out.Q1 (by rw [HN0.out]; exact hbig)
     have hnx := HT.out.next HD.out.Q1 (by rw [HN0.out]; exact hbig)
     have HNx := Lib.hid hnx
     have k1 : IntKind.u64.wrap ((x : Int) - 1) = ((x - 1 : Nat) : Int) := by rw [show (x : Int) - 1 = ((x - 1 : Nat) : Int) by omega]; exact IntWalk.u64_in _ (by omega)
     have k2 : IntKind.u64.wrap ((p : Int) + (y1 : Int)) = ((p + y1 : Nat) : Int) := by rw [show (p : Int) + (y1 : Int) = ((p + y1 : Nat) : Int) by omega]; exact IntWalk.u64_in _ (by omega)
     obtain ⟨x9, hx9⟩ : ∃ x9, x - 1 = x9 := ⟨_, rfl⟩
     obtain ⟨p9, hp9⟩ : ∃ p9, p + y1 = p9 := ⟨_, rfl⟩
     rw [hx9] at k1
     rw [hp9] at k2
     rw [hx9, hp9] at hnx
     have hx9l : x9 < x := by omega
     have hx9b : x9 ≤ 4294967296 := by omega
     have HNy := Lib.hid hnx
     clear hnx HNx hx9 hp9 hn0
     by_cases hX : 4294967296 ≤ x
     · have hXi : (4294967296 : Int) ≤ (x : Int) := by omega
       by_cases hbr : 4294967296 ≤ p9
       · have hbri : (4294967296 : Int) ≤ (p9 : Int) := by omega
         have hxq := HNy.out.broke HD.out.Q1 hx9b hbr
         subst hxq
         clear hbig hov
         go_wp2_with fail
         go_loop [18, 16] (fun vx vp => ∃ x p : Nat, vx = .int .u64 (x : Int) ∧ vp = .int .u64 (p : Int) ∧ p < 4294967296 ∧ Trial 4294967296 b c0 y1 y0 q0 x p) (fun vx _ => (intOf vx).toNat)
         case atStart => exact ⟨x1, p1, rfl, rfl, by omega, HT1.out⟩
         case round =>
           obtain ⟨x, p, rfl, rfl, hp, hT⟩ := hrel
           have HT := Lib.hid hT
           have hxl := hT.le
           clear hT
           obtain ⟨n0, hn0⟩ : ∃ n0, x * y0 = n0 := ⟨_, rfl⟩
           have HN0 := Lib.hid hn0
           by_cases hbig : 4294967296 ≤ x ∨ 4294967296 * p + c0 < n0
           · have hov := HT.out.over HD.out.Q0 (by rw [HN0.out]; exact hbig)
             have hnx := HT.out.next HD.out.Q0 (by rw [HN0.out]; exact hbig)
             have HNx := Lib.hid hnx
             have k1 : IntKind.u64.wrap ((x : Int) - 1) = ((x - 1 : Nat) : Int) := by rw [show (x : Int) - 1 = ((x - 1 : Nat) : Int) by omega]; exact IntWalk.u64_in _ (by omega)
             have k2 : IntKind.u64.wrap ((p : Int) + (y1 : Int)) = ((p + y1 : Nat) : Int) := by rw [show (p : Int) + (y1 : Int) = ((p + y1 : Nat) : Int) by omega]; exact IntWalk.u64_in _ (by omega)
             obtain ⟨x9, hx9⟩ : ∃ x9, x - 1 = x9 := ⟨_, rfl⟩
             obtain ⟨p9, hp9⟩ : ∃ p9, p + y1 = p9 := ⟨_, rfl⟩
             rw [hx9] at k1
             rw [hp9] at k2
             rw [hx9, hp9] at hnx
             have hx9l : x9 < x := by omega
             have hx9b : x9 ≤ 4294967296 := by omega
             have HNy := Lib.hid hnx
             clear hnx HNx hx9 hp9 hn0
             by_cases hX : 4294967296 ≤ x
             · have hXi : (4294967296 : Int) ≤ (x : Int) := by omega
               by_cases hbr : 4294967296 ≤ p9
               · have hbri : (4294967296 : Int) ≤ (p9 : Int) := by omega
                 have hxq := HNy.out.broke HD.out.Q0 hx9b hbr
                 subst hxq
                 clear hbig hov
                 go_wp2_with fail
                 go_returns
                 exact ⟨rfl, by (repeat' first | (with_reducible first | exact .refl _ _ | assumption | apply balloc | apply Below.drew | apply bset | refine bstep ?_ ‹_› | refine bturn ?_ ‹_› ?_) | go_size)⟩
               · have hbri : ¬ (4294967296 : Int) ≤ (p9 : Int) := by omega
                 clear hbig hov
                 go_wp2_with fail
                 go_round
                 case rel => exact ⟨x9, p9, rfl, rfl, by omega, HNy.out⟩
                 case measure => simp [intOf]; omega
             · have hXi : ¬ (4294967296 : Int) ≤ (x : Int) := by omega
               have hlt : 4294967296 * p + c0 < n0 := by omega
               have hn0b : n0 ≤ 18446744065119617025 := by rw [← HN0.out]; exact Nat.mul_le_mul (show x ≤ 4294967295 by omega) (show y0 ≤ 4294967295 by omega)
               have k3 : IntKind.u64.wrap ((x : Int) * (y0 : Int)) = (n0 : Int) := by rw [show (x : Int) * (y0 : Int) = (n0 : Int) by rw [← HN0.out, Int.natCast_mul]]; exact IntWalk.u64_in _ (by omega)
               have k4 : IntKind.u64.wrap (4294967296 * (p : Int)) = 4294967296 * (p : Int) := IntWalk.u64_in _ (by omega)
               have k5 : IntKind.u64.wrap (4294967296 * (p : Int) + (c0 : Int)) = 4294967296 * (p : Int) + (c0 : Int) := IntWalk.u64_in _ (by omega)
               have k6 : 4294967296 * (p : Int) + (c0 : Int) < (n0 : Int) := by omega
               by_cases hbr : 4294967296 ≤ p9
               · have hbri : (4294967296 : Int) ≤ (p9 : Int) := by omega
                 have hxq := HNy.out.broke HD.out.Q0 hx9b hbr
                 subst hxq
                 clear hbig hov hlt
                 go_wp2_with fail
                 go_returns
                 exact ⟨rfl, by (repeat' first | (with_reducible first | exact .refl _ _ | assumption | apply balloc | apply Below.drew | apply bset | refine bstep ?_ ‹_› | refine bturn ?_ ‹_› ?_) | go_size)⟩
               · have hbri : ¬ (4294967296 : Int) ≤ (p9 : Int) := by omega
                 clear hbig hov hlt
                 go_wp2_with fail
                 go_round
                 case rel => exact ⟨x9, p9, rfl, rfl, by omega, HNy.out⟩
                 case measure => simp [intOf]; omega
           · have hxq := HT.out.done HD.out.Q0 (by rw [HN0.out]; exact hbig)
             have hXi : ¬ (4294967296 : Int) ≤ (x : Int) := by omega
             have hn0b : n0 ≤ 4294967296 * p + c0 := by omega
             have k3 : IntKind.u64.wrap ((x : Int) * (y0 : Int)) = (n0 : Int) := by rw [show (x : Int) * (y0 : Int) = (n0 : Int) by rw [← HN0.out, Int.natCast_mul]]; exact IntWalk.u64_in _ (by omega)
             have k4 : IntKind.u64.wrap (4294967296 * (p : Int)) = 4294967296 * (p : Int) := IntWalk.u64_in _ (by omega)
             have k5 : IntKind.u64.wrap (4294967296 * (p : Int) + (c0 : Int)) = 4294967296 * (p : Int) + (c0 : Int) := IntWalk.u64_in _ (by omega)
             have k6 : ¬ 4294967296 * (p : Int) + (c0 : Int) < (n0 : Int) := by omega
             clear hbig hn0
             subst hxq
             go_wp2_with fail
             go_returns
             exact ⟨rfl, by (repeat' first | (with_reducible first | exact .refl _ _ | assumption | apply balloc | apply Below.drew | apply bset | refine bstep ?_ ‹_› | refine bturn ?_ ‹_› ?_) | go_size)⟩
       · have hbri : ¬ (4294967296 : Int) ≤ (p9 : Int) := by omega
         clear hbig hov
         go_wp2_with fail
         go_round
         case rel => exact ⟨x9, p9, rfl, rfl, by omega, HNy.out⟩
         case measure => simp [intOf]; omega
     · have hXi : ¬ (4294967296 : Int) ≤ (x : Int) := by omega
       have hlt : 4294967296 * p + c1 < n0 := by omega
       have hn0b : n0 ≤ 18446744065119617025 := by rw [← HN0.out]; exact Nat.mul_le_mul (show x ≤ 4294967295 by omega) (show y0 ≤ 4294967295 by omega)
       have k3 : IntKind.u64.wrap ((x : Int) * (y0 : Int)) = (n0 : Int) := by rw [show (x : Int) * (y0 : Int) = (n0 : Int) by rw [← HN0.out, Int.natCast_mul]]; exact IntWalk.u64_in _ (by omega)
       have k4 : IntKind.u64.wrap (4294967296 * (p : Int)) = 4294967296 * (p : Int) := IntWalk.u64_in _ (by omega)
       have k5 : IntKind.u64.wrap (4294967296 * (p : Int) + (c1 : Int)) = 4294967296 * (p : Int) + (c1 : Int) := IntWalk.u64_in _ (by omega)
       have k6 : 4294967296 * (p : Int) + (c1 : Int) < (n0 : Int) := by omega
       by_cases hbr : 4294967296 ≤ p9
       · have hbri : (4294967296 : Int) ≤ (p9 : Int) := by omega
         have hxq := HNy.out.broke HD.out.Q1 hx9b hbr
         subst hxq
         clear hbig hov hlt
         go_wp2_with fail
         go_loop [18, 16] (fun vx vp => ∃ x p : Nat, vx = .int .u64 (x : Int) ∧ vp = .int .u64 (p : Int) ∧ p < 4294967296 ∧ Trial 4294967296 b c0 y1 y0 q0 x p) (fun vx _ => (intOf vx).toNat)
         case atStart => exact ⟨x1, p1, rfl, rfl, by omega, HT1.out⟩
         case round =>
           obtain ⟨x, p, rfl, rfl, hp, hT⟩ := hrel
           have HT := Lib.hid hT
           have hxl := hT.le
           clear hT
           obtain ⟨n0, hn0⟩ : ∃ n0, x * y0 = n0 := ⟨_, rfl⟩
           have HN0 := Lib.hid hn0
           by_cases hbig : 4294967296 ≤ x ∨ 4294967296 * p + c0 < n0
           · have hov := HT.out.over HD.out.Q0 (by rw [HN0.out]; exact hbig)
             have hnx := HT.out.next HD.out.Q0 (by rw [HN0.out]; exact hbig)
             have HNx := Lib.hid hnx
             have k1 : IntKind.u64.wrap ((x : Int) - 1) = ((x - 1 : Nat) : Int) := by rw [show (x : Int) - 1 = ((x - 1 : Nat) : Int) by omega]; exact IntWalk.u64_in _ (by omega)
             have k2 : IntKind.u64.wrap ((p : Int) + (y1 : Int)) = ((p + y1 : Nat) : Int) := by rw [show (p : Int) + (y1 : Int) = ((p + y1 : Nat) : Int) by omega]; exact IntWalk.u64_in _ (by omega)
             obtain ⟨x9, hx9⟩ : ∃ x9, x - 1 = x9 := ⟨_, rfl⟩
             obtain ⟨p9, hp9⟩ : ∃ p9, p + y1 = p9 := ⟨_, rfl⟩
             rw [hx9] at k1
             rw [hp9] at k2
             rw [hx9, hp9] at hnx
             have hx9l : x9 < x := by omega
             have hx9b : x9 ≤ 4294967296 := by omega
             have HNy := Lib.hid hnx
             clear hnx HNx hx9 hp9 hn0
             by_cases hX : 4294967296 ≤ x
             · have hXi : (4294967296 : Int) ≤ (x : Int) := by omega
               by_cases hbr : 4294967296 ≤ p9
               · have hbri : (4294967296 : Int) ≤ (p9 : Int) := by omega
                 have hxq := HNy.out.broke HD.out.Q0 hx9b hbr
                 subst hxq
                 clear hbig hov
                 go_wp2_with fail
                 go_returns
                 exact ⟨rfl, by (repeat' first | (with_reducible first | exact .refl _ _ | assumption | apply balloc | apply Below.drew | apply bset | refine bstep ?_ ‹_› | refine bturn ?_ ‹_› ?_) | go_size)⟩
               · have hbri : ¬ (4294967296 : Int) ≤ (p9 : Int) := by omega
                 clear hbig hov
                 go_wp2_with fail
                 go_round
                 case rel => exact ⟨x9, p9, rfl, rfl, by omega, HNy.out⟩
                 case measure => simp [intOf]; omega
             · have hXi : ¬ (4294967296 : Int) ≤ (x : Int) := by omega
               have hlt : 4294967296 * p + c0 < n0 := by omega
               have hn0b : n0 ≤ 18446744065119617025 := by rw [← HN0.out]; exact Nat.mul_le_mul (show x ≤ 4294967295 by omega) (show y0 ≤ 4294967295 by omega)
               have k3 : IntKind.u64.wrap ((x : Int) * (y0 : Int)) = (n0 : Int) := by rw [show (x : Int) * (y0 : Int) = (n0 : Int) by rw [← HN0.out, Int.natCast_mul]]; exact IntWalk.u64_in _ (by omega)
               have k4 : IntKind.u64.wrap (4294967296 * (p : Int)) = 4294967296 * (p : Int) := IntWalk.u64_in _ (by omega)
               have k5 : IntKind.u64.wrap (4294967296 * (p : Int) + (c0 : Int)) = 4294967296 * (p : Int) + (c0 : Int) := IntWalk.u64_in _ (by omega)
               have k6 : 4294967296 * (p : Int) + (c0 : Int) < (n0 : Int) := by omega
               by_cases hbr : 4294967296 ≤ p9
               · have hbri : (4294967296 : Int) ≤ (p9 : Int) := by omega
                 have hxq := HNy.out.broke HD.out.Q0 hx9b hbr
                 subst hxq
                 clear hbig hov hlt
                 go_wp2_with fail
                 go_returns
                 exact ⟨rfl, by (repeat' first | (with_reducible first | exact .refl _ _ | assumption | apply balloc | apply Below.drew | apply bset | refine bstep ?_ ‹_› | refine bturn ?_ ‹_› ?_) | go_size)⟩
               · have hbri : ¬ (4294967296 : Int) ≤ (p9 : Int) := by omega
                 clear hbig hov hlt
                 go_wp2_with fail
                 go_round
                 case rel => exact ⟨x9, p9, rfl, rfl, by omega, HNy.out⟩
                 case measure => simp [intOf]; omega
           · have hxq := HT.out.done HD.out.Q0 (by rw [HN0.out]; exact hbig)
             have hXi : ¬ (4294967296 : Int) ≤ (x : Int) := by omega
             have hn0b : n0 ≤ 4294967296 * p + c0 := by omega
             have k3 : IntKind.u64.wrap ((x : Int) * (y0 : Int)) = (n0 : Int) := by rw [show (x : Int) * (y0 : Int) = (n0 : Int) by rw [← HN0.out, Int.natCast_mul]]; exact IntWalk.u64_in _ (by omega)
             have k4 : IntKind.u64.wrap (4294967296 * (p : Int)) = 4294967296 * (p : Int) := IntWalk.u64_in _ (by omega)
             have k5 : IntKind.u64.wrap (4294967296 * (p : Int) + (c0 : Int)) = 4294967296 * (p : Int) + (c0 : Int) := IntWalk.u64_in _ (by omega)
             have k6 : ¬ 4294967296 * (p : Int) + (c0 : Int) < (n0 : Int) := by omega
             clear hbig hn0
             subst hxq
             go_wp2_with fail
             go_returns
             exact ⟨rfl, by (repeat' first | (with_reducible first | exact .refl _ _ | assumption | apply balloc | apply Below.drew | apply bset | refine bstep ?_ ‹_› | refine bturn ?_ ‹_› ?_) | go_size)⟩
       · have hbri : ¬ (4294967296 : Int) ≤ (p9 : Int) := by omega
         clear hbig hov hlt
         go_wp2_with fail
         go_round
         case rel => exact ⟨x9, p9, rfl, rfl, by omega, HNy.out⟩
         case measure => simp [intOf]; omega
   · have hxq := HT.out.done HD.out.Q1 (by rw [HN0.out]; exact hbig)
     have hXi : ¬ (4294967296 : Int) ≤ (x : Int) := by omega
     have hn0b : n0 ≤ 4294967296 * p + c1 := by omega
     have k3 : IntKind.u64.wrap ((x : Int) * (y0 : Int)) = (n0 : Int) := by rw [show (x : Int) * (y0 : Int) = (n0 : Int) by rw [← HN0.out, Int.natCast_mul]]; exact IntWalk.u64_in _ (by omega)
     have k4 : IntKind.u64.wrap (4294967296 * (p : Int)) = 4294967296 * (p : Int) := IntWalk.u64_in _ (by omega)
     have k5 : IntKind.u64.wrap (4294967296 * (p : Int) + (c1 : Int)) = 4294967296 * (p : Int) + (c1 : Int) := IntWalk.u64_in _ (by omega)
     have k6 : ¬ 4294967296 * (p : Int) + (c1 : Int) < (n0 : Int) := by omega
     clear hbig hn0
     subst hxq
     go_wp2_with fail
     go_loop [18, 16] (fun vx vp => ∃ x p : Nat, vx = .int .u64 (x : Int) ∧ vp = .int .u64 (p : Int) ∧ p < 4294967296 ∧ Trial 4294967296 b c0 y1 y0 q0 x p) (fun vx _ => (intOf vx).toNat)
     case atStart => exact ⟨x1, p1, rfl, rfl, by omega, HT1.out⟩
     case round =>
       obtain ⟨x, p, rfl, rfl, hp, hT⟩ := hrel
       have HT := Lib.hid hT
       have hxl := hT.le
       clear hT
       obtain ⟨n0, hn0⟩ : ∃ n0, x * y0 = n0 := ⟨_, rfl⟩
       have HN0 := Lib.hid hn0
       by_cases hbig : 4294967296 ≤ x ∨ 4294967296 * p + c0 < n0
       · have hov := HT.out.over HD.out.Q0 (by rw [HN0.out]; exact hbig)
         have hnx := HT.out.next HD.out.Q0 (by rw [HN0.out]; exact hbig)
         have HNx := Lib.hid hnx
         have k1 : IntKind.u64.wrap ((x : Int) - 1) = ((x - 1 : Nat) : Int) := by rw [show (x : Int) - 1 = ((x - 1 : Nat) : Int) by omega]; exact IntWalk.u64_in _ (by omega)
         have k2 : IntKind.u64.wrap ((p : Int) + (y1 : Int)) = ((p + y1 : Nat) : Int) := by rw [show (p : Int) + (y1 : Int) = ((p + y1 : Nat) : Int) by omega]; exact IntWalk.u64_in _ (by omega)
         obtain ⟨x9, hx9⟩ : ∃ x9, x - 1 = x9 := ⟨_, rfl⟩
         obtain ⟨p9, hp9⟩ : ∃ p9, p + y1 = p9 := ⟨_, rfl⟩
         rw [hx9] at k1
         rw [hp9] at k2
         rw [hx9, hp9] at hnx
         have hx9l : x9 < x := by omega
         have hx9b : x9 ≤ 4294967296 := by omega
         have HNy := Lib.hid hnx
         clear hnx HNx hx9 hp9 hn0
         by_cases hX : 4294967296 ≤ x
         · have hXi : (4294967296 : Int) ≤ (x : Int) := by omega
           by_cases hbr : 4294967296 ≤ p9
           · have hbri : (4294967296 : Int) ≤ (p9 : Int) := by omega
             have hxq := HNy.out.broke HD.out.Q0 hx9b hbr
             subst hxq
             clear hbig hov
             go_wp2_with fail
             go_returns
             exact ⟨rfl, by (repeat' first | (with_reducible first | exact .refl _ _ | assumption | apply balloc | apply Below.drew | apply bset | refine bstep ?_ ‹_› | refine bturn ?_ ‹_› ?_) | go_size)⟩
           · have hbri : ¬ (4294967296 : Int) ≤ (p9 : Int) := by omega
             clear hbig hov
             go_wp2_with fail
             go_round
             case rel => exact ⟨x9, p9, rfl, rfl, by omega, HNy.out⟩
             case measure => simp [intOf]; omega
         · have hXi : ¬ (4294967296 : Int) ≤ (x : Int) := by omega
           have hlt : 4294967296 * p + c0 < n0 := by omega
           have hn0b : n0 ≤ 18446744065119617025 := by rw [← HN0.out]; exact Nat.mul_le_mul (show x ≤ 4294967295 by omega) (show y0 ≤ 4294967295 by omega)
           have k3 : IntKind.u64.wrap ((x : Int) * (y0 : Int)) = (n0 : Int) := by rw [show (x : Int) * (y0 : Int) = (n0 : Int) by rw [← HN0.out, Int.natCast_mul]]; exact IntWalk.u64_in _ (by omega)
           have k4 : IntKind.u64.wrap (4294967296 * (p : Int)) = 4294967296 * (p : Int) := IntWalk.u64_in _ (by omega)
           have k5 : IntKind.u64.wrap (4294967296 * (p : Int) + (c0 : Int)) = 4294967296 * (p : Int) + (c0 : Int) := IntWalk.u64_in _ (by omega)
           have k6 : 4294967296 * (p : Int) + (c0 : Int) < (n0 : Int) := by omega
           by_cases hbr : 4294967296 ≤ p9
           · have hbri : (4294967296 : Int) ≤ (p9 : Int) := by omega
             have hxq := HNy.out.broke HD.out.Q0 hx9b hbr
             subst hxq
             clear hbig hov hlt
             go_wp2_with fail
             go_returns
             exact ⟨rfl, by (repeat' first | (with_reducible first | exact .refl _ _ | assumption | apply balloc | apply Below.drew | apply bset | refine bstep ?_ ‹_› | refine bturn ?_ ‹_› ?_) | go_size)⟩
           · have hbri : ¬ (4294967296 : Int) ≤ (p9 : Int) := by omega
             clear hbig hov hlt
             go_wp2_with fail
             go_round
             case rel => exact ⟨x9, p9, rfl, rfl, by omega, HNy.out⟩
             case measure => simp [intOf]; omega
       · have hxq := HT.out.done HD.out.Q0 (by rw [HN0.out]; exact hbig)
         have hXi : ¬ (4294967296 : Int) ≤ (x : Int) := by omega
         have hn0b : n0 ≤ 4294967296 * p + c0 := by omega
         have k3 : IntKind.u64.wrap ((x : Int) * (y0 : Int)) = (n0 : Int) := by rw [show (x : Int) * (y0 : Int) = (n0 : Int) by rw [← HN0.out, Int.natCast_mul]]; exact IntWalk.u64_in _ (by omega)
         have k4 : IntKind.u64.wrap (4294967296 * (p : Int)) = 4294967296 * (p : Int) := IntWalk.u64_in _ (by omega)
         have k5 : IntKind.u64.wrap (4294967296 * (p : Int) + (c0 : Int)) = 4294967296 * (p : Int) + (c0 : Int) := IntWalk.u64_in _ (by omega)
         have k6 : ¬ 4294967296 * (p : Int) + (c0 : Int) < (n0 : Int) := by omega
         clear hbig hn0
         subst hxq
         go_wp2_with fail
         go_returns
         exact ⟨rfl, by (repeat' first | (with_reducible first | exact .refl _ _ | assumption | apply balloc | apply Below.drew | apply bset | refine bstep ?_ ‹_› | refine bturn ?_ ‹_› ?_) | go_size)⟩
end Go.Proofs.YtapilekangmcoaaGreatDoor.Dq
namespace Go.Proofs.YtapilekangmcoaaGreatDoor.Dq
open Go.RowKit
attribute [local go_sem high] run_dec_eql run_dec_neq
theorem div64_any (hi lo y u v : Nat) (hy : hi < y) (hy64 : y < 18446744073709551616) (hl : lo < 18446744073709551616) (hu : (hi * 18446744073709551616 + lo) / y = u) (hv : (hi * 18446744073709551616 + lo) % y = v) (w : World) :
   Calls Tryz.prog 163 #[.int .u64 (hi : Int), .int .u64 (lo : Int), .int .u64 (y : Int)] w fun e w' => e = .returned (.tuple #[.int .u64 (u : Int), .int .u64 (v : Int)]) ∧ Below w.heap.size w w' := by
 by_cases h0 : hi = 0
 · subst h0
   rw [Nat.zero_mul, Nat.zero_add] at hu hv
   exact div64_low lo y u v hy hy64 hl hu hv w
 · obtain ⟨z, Y, H, e, L, a, t, y1, y0, c1, c0, q1, b, q0, d, hz, hb, D⟩ := d64_ex hy hy64 hl
   exact div64_high D (by omega) hy hy64 hl hz hb u v hu hv w
theorem even_far (hi lo y : Nat) (h : y ≤ hi) (w : World) : Calls Tryz.prog 131 #[.int .u64 (hi : Int), .int .u64 (lo : Int), .int .u64 (y : Int)] w fun e w' => e = .returned (.tuple #[.int .u64 0, .bool false]) ∧ Below w.heap.size w w' := by
 have hi' : (y : Int) ≤ (hi : Int) := by omega
 go_enter Tryz.func131, Tryz.ntmps131
 go_wp2_with fail
 go_returns
 exact ⟨rfl, by (repeat' first | (with_reducible first | exact .refl _ _ | assumption | apply balloc | apply Below.drew | apply bset | refine bstep ?_ ‹_› | refine bturn ?_ ‹_› ?_) | go_size)⟩
set_option maxHeartbeats 1000000 in
theorem even_near (hi lo y E : Nat) (hy : hi < y) (hy64 : y < 18446744073709551616) (hl : lo < 18446744073709551616) (hE : evenQ (hi * 18446744073709551616 + lo) y % 18446744073709551616 = E) (w : World) :
   Calls Tryz.prog 131 #[.int .u64 (hi : Int), .int .u64 (lo : Int), .int .u64 (y : Int)] w fun e w' => e = .returned (.tuple #[.int .u64 (E : Int), .bool true]) ∧ Below w.heap.size w w' := by
 obtain ⟨u, hu⟩ : ∃ u, (hi * 18446744073709551616 + lo) / y = u := ⟨_, rfl⟩
 obtain ⟨v, hv⟩ : ∃ v, (hi * 18446744073709551616 + lo) % y = v := ⟨_, rfl⟩
 have hvy : v < y := by rw [← hv]; exact Nat.mod_lt _ (by omega)
 have hu64 : u < 18446744073709551616 := by
   rw [← hu, Nat.div_lt_iff_lt_mul (by omega)]
   have := Nat.mul_le_mul_left 18446744073709551616 (show hi + 1 ≤ y from hy)
   omega
 have HD := Lib.hid (fun w => div64_any hi lo y u v hy hy64 hl hu hv w)
 unfold evenQ at hE
 rw [hu, hv] at hE
 obtain ⟨h, hh⟩ : ∃ h, h = y - v := ⟨_, rfl⟩
 have k1 : IntKind.u64.wrap ((y : Int) - (v : Int)) = (h : Int) := by rw [show (y : Int) - (v : Int) = (h : Int) by omega]; exact IntWalk.u64_in _ (by omega)
 have hfar : ¬ (y : Int) ≤ (hi : Int) := by omega
 by_cases hup : y < 2 * v ∨ 2 * v = y ∧ u % 2 = 1
 · rw [if_pos hup] at hE
   have k2 : IntKind.u64.wrap ((u : Int) + 1) = (E : Int) := by rw [IntKind.wrap_u64]; omega
   by_cases g1 : h < v
   · have g1i : (h : Int) < (v : Int) := by omega
     clear hE hup hu hv hh
     go_enter Tryz.func131, Tryz.ntmps131
     go_wp2_with fail
     refine (HD.out _).mono ?_
     rintro e w1 ⟨rfl, hb⟩
     go_wp2_with fail
     go_returns
     exact ⟨rfl, by (repeat' first | (with_reducible first | exact .refl _ _ | assumption | apply balloc | apply Below.drew | apply bset | refine bstep ?_ ‹_› | refine bturn ?_ ‹_› ?_) | go_size)⟩
   · obtain rfl : h = v := by omega
     have g2 : (u : Int) % 2 = 1 := by omega
     clear hE hup hu hv hh g1
     go_enter Tryz.func131, Tryz.ntmps131
     go_wp2_with fail
     refine (HD.out _).mono ?_
     rintro e w1 ⟨rfl, hb⟩
     go_wp2_with fail
     go_returns
     exact ⟨rfl, by (repeat' first | (with_reducible first | exact .refl _ _ | assumption | apply balloc | apply Below.drew | apply bset | refine bstep ?_ ‹_› | refine bturn ?_ ‹_› ?_) | go_size)⟩
 · rw [if_neg hup, Nat.add_zero, Nat.mod_eq_of_lt hu64] at hE
   subst hE
   by_cases g2 : h = v
   · subst g2
     have g3 : ¬ (u : Int) % 2 = 1 := by omega
     clear hup hu hv hh
     go_enter Tryz.func131, Tryz.ntmps131
     go_wp2_with fail
     refine (HD.out _).mono ?_
     rintro e w1 ⟨rfl, hb⟩
     go_wp2_with fail
     go_returns
     exact ⟨rfl, by (repeat' first | (with_reducible first | exact .refl _ _ | assumption | apply balloc | apply Below.drew | apply bset | refine bstep ?_ ‹_› | refine bturn ?_ ‹_› ?_) | go_size)⟩
   · have g3 : ¬ (h : Int) < (v : Int) := by omega
     have g4 : ¬ (v : Int) = (h : Int) := by omega
     clear hup hu hv hh g2
     go_enter Tryz.func131, Tryz.ntmps131
     go_wp2_with fail
     refine (HD.out _).mono ?_
     rintro e w1 ⟨rfl, hb⟩
     go_wp2_with fail
     go_returns
     exact ⟨rfl, by (repeat' first | (with_reducible first | exact .refl _ _ | assumption | apply balloc | apply Below.drew | apply bset | refine bstep ?_ ‹_› | refine bturn ?_ ‹_› ?_) | go_size)⟩
end Go.Proofs.YtapilekangmcoaaGreatDoor.Dq
namespace Go.Proofs.YtapilekangmcoaaGreatDoor.Dq
open Go.RowKit
attribute [local go_sem high] run_dec_eql run_dec_neq
theorem div_form (n s n2 s2 : Int) (HS : Hid (∀ g c (w : World), Blk w g 23 #[.int .i64 n, .int .i64 s, .int .i64 n2, .int .i64 s2] → Calls Tryz.prog 127 #[.slice (some ⟨g, 0, none⟩) 2 c] w fun e w' => e = .returned (.int .i64 2) ∧ Below w.heap.size w w')) (w : World) :
   Calls Tryz.prog 87 #[.agg #[.int .i64 n, .int .i64 s], .agg #[.int .i64 n2, .int .i64 s2]] w fun e w' => e = .returned (.tuple #[.agg #[.int .i64 (⟨0, 0, 2⟩ : Res).n, .int .i64 (⟨0, 0, 2⟩ : Res).s], .int .i64 (⟨0, 0, 2⟩ : Res).e]) ∧ Below w.heap.size w w' := by
 have hb0 := ((Blk.new w 23 #[.int .i64 n, .int .i64 s]).alloc (.cells #[.int .i64 n2, .int .i64 s2] 23)).alloc (.cells #[.int .i64 0, .int .i64 0] 23)
 have hb2 := (Blk.new' (w.alloc (.cells #[.int .i64 n, .int .i64 s] 23)) 23 #[.int .i64 n2, .int .i64 s2] (n := w.heap.size + 1) (by simp)).alloc (.cells #[.int .i64 0, .int .i64 0] 23)
 have hb1 := Blk.new' ((w.alloc (.cells #[.int .i64 n, .int .i64 s] 23)).alloc (.cells #[.int .i64 n2, .int .i64 s2] 23)) 23 #[.int .i64 0, .int .i64 0] (n := w.heap.size + 1 + 1) (by simp)
 go_enter Tryz.func87, Tryz.ntmps87
 go_wp2_with fail
 refine (HS.out _ _ _ (Blk.new' _ _ _ (by simp))).mono ?_
 rintro e w1 ⟨rfl, hb⟩
 replace hb0 := (hb0.alloc _).step hb
 replace hb2 := (hb2.alloc _).step hb
 replace hb1 := (hb1.alloc _).step hb
 have c0 := hb0.cell 0
 have c1 := hb0.cell 1
 have e0 := hb2.cell 0
 have e1 := hb2.cell 1
 simp at c0 c1 e0 e1
 go_wp2_with (first | (refine wpList_store_blk hb1 rfl _ _ _ (by rfl) _ (by rfl) (by rfl) (by repeat first | with_reducible first | exact hb1 | apply Blk.alloc | apply Blk.drew | refine Blk.far ?_ (by simp <;> omega) _ | refine Blk.turn ?_ ‹_› (by omega)) (by rfl) (by kernel_rfl) (by simp [Value.oneCell']) ?_; intro wt hb1n ht))
 refine ret_blk2 rfl hb1n rfl Tryz.underlying23 rfl (by kernel_rfl) rfl ?_
 exact ⟨rfl, by (repeat' first | (with_reducible first | exact .refl _ _ | assumption | apply balloc | apply Below.drew | apply bset | refine bstep ?_ ‹_› | refine bturn ?_ ‹_› ?_) | go_size)⟩
theorem div_zero (n s n2 s2 : Int) (HS : Hid (∀ g c (w : World), Blk w g 23 #[.int .i64 n, .int .i64 s, .int .i64 n2, .int .i64 s2] → Calls Tryz.prog 127 #[.slice (some ⟨g, 0, none⟩) 2 c] w fun e w' => e = .returned (.int .i64 0) ∧ Below w.heap.size w w')) (hz : n2 = 0) (w : World) :
   Calls Tryz.prog 87 #[.agg #[.int .i64 n, .int .i64 s], .agg #[.int .i64 n2, .int .i64 s2]] w fun e w' => e = .returned (.tuple #[.agg #[.int .i64 (⟨0, 0, 4⟩ : Res).n, .int .i64 (⟨0, 0, 4⟩ : Res).s], .int .i64 (⟨0, 0, 4⟩ : Res).e]) ∧ Below w.heap.size w w' := by
 subst hz
 have hb0 := ((Blk.new w 23 #[.int .i64 n, .int .i64 s]).alloc (.cells #[.int .i64 0, .int .i64 s2] 23)).alloc (.cells #[.int .i64 0, .int .i64 0] 23)
 have hb2 := (Blk.new' (w.alloc (.cells #[.int .i64 n, .int .i64 s] 23)) 23 #[.int .i64 0, .int .i64 s2] (n := w.heap.size + 1) (by simp)).alloc (.cells #[.int .i64 0, .int .i64 0] 23)
 have hb1 := Blk.new' ((w.alloc (.cells #[.int .i64 n, .int .i64 s] 23)).alloc (.cells #[.int .i64 0, .int .i64 s2] 23)) 23 #[.int .i64 0, .int .i64 0] (n := w.heap.size + 1 + 1) (by simp)
 go_enter Tryz.func87, Tryz.ntmps87
 go_wp2_with fail
 refine (HS.out _ _ _ (Blk.new' _ _ _ (by simp))).mono ?_
 rintro e w1 ⟨rfl, hb⟩
 replace hb0 := (hb0.alloc _).step hb
 replace hb2 := (hb2.alloc _).step hb
 replace hb1 := (hb1.alloc _).step hb
 have c0 := hb0.cell 0
 have c1 := hb0.cell 1
 have e0 := hb2.cell 0
 have e1 := hb2.cell 1
 simp at c0 c1 e0 e1
 go_wp2_with (first | (refine wpList_store_blk hb1 rfl _ _ _ (by rfl) _ (by rfl) (by rfl) (by repeat first | with_reducible first | exact hb1 | apply Blk.alloc | apply Blk.drew | refine Blk.far ?_ (by simp <;> omega) _ | refine Blk.turn ?_ ‹_› (by omega)) (by rfl) (by kernel_rfl) (by simp [Value.oneCell']) ?_; intro wt hb1n ht))
 refine ret_blk2 rfl hb1n rfl Tryz.underlying23 rfl (by kernel_rfl) rfl ?_
 exact ⟨rfl, by (repeat' first | (with_reducible first | exact .refl _ _ | assumption | apply balloc | apply Below.drew | apply bset | refine bstep ?_ ‹_› | refine bturn ?_ ‹_› ?_) | go_size)⟩
set_option maxHeartbeats 4000000 in
theorem div_far (n s n2 s2 : Int) (HS : Hid (∀ g c (w : World), Blk w g 23 #[.int .i64 n, .int .i64 s, .int .i64 n2, .int .i64 s2] → Calls Tryz.prog 127 #[.slice (some ⟨g, 0, none⟩) 2 c] w fun e w' => e = .returned (.int .i64 0) ∧ Below w.heap.size w w')) (A B P K hi lo : Nat) (hz : ¬ n2 = 0) (k6 : IntKind.i64.wrap (6 - s) = 6 - s) (k7 : IntKind.i64.wrap (6 - s + s2) = (K : Int))
   (HA : Hid (∀ W, Calls Tryz.prog 130 #[.agg #[.int .i64 n, .int .i64 s]] W fun e w' => e = .returned (.int .u64 (A : Int)) ∧ Below W.heap.size W w'))
   (HB : Hid (∀ W, Calls Tryz.prog 130 #[.agg #[.int .i64 n2, .int .i64 s2]] W fun e w' => e = .returned (.int .u64 (B : Int)) ∧ Below W.heap.size W w'))
   (HP : Hid (∀ W, Calls Tryz.prog 132 #[.int .i64 (K : Int)] W fun e w' => e = .returned (.int .u64 (P : Int)) ∧ Below W.heap.size W w'))
   (HM : Hid (∀ W, Calls Tryz.prog 129 #[.int .u64 (A : Int), .int .u64 (P : Int)] W fun e w' => e = .returned (.tuple #[.int .u64 (hi : Int), .int .u64 (lo : Int)]) ∧ Below W.heap.size W w'))
   (HE : Hid (∀ W, Calls Tryz.prog 131 #[.int .u64 (hi : Int), .int .u64 (lo : Int), .int .u64 (B : Int)] W fun e w' => e = .returned (.tuple #[.int .u64 0, .bool false]) ∧ Below W.heap.size W w')) (w : World) :
   Calls Tryz.prog 87 #[.agg #[.int .i64 n, .int .i64 s], .agg #[.int .i64 n2, .int .i64 s2]] w fun e w' => e = .returned (.tuple #[.agg #[.int .i64 (⟨0, 0, 3⟩ : Res).n, .int .i64 (⟨0, 0, 3⟩ : Res).s], .int .i64 (⟨0, 0, 3⟩ : Res).e]) ∧ Below w.heap.size w w' := by
 have hb0 := ((Blk.new w 23 #[.int .i64 n, .int .i64 s]).alloc (.cells #[.int .i64 n2, .int .i64 s2] 23)).alloc (.cells #[.int .i64 0, .int .i64 0] 23)
 have hb2 := (Blk.new' (w.alloc (.cells #[.int .i64 n, .int .i64 s] 23)) 23 #[.int .i64 n2, .int .i64 s2] (n := w.heap.size + 1) (by simp)).alloc (.cells #[.int .i64 0, .int .i64 0] 23)
 have hb1 := Blk.new' ((w.alloc (.cells #[.int .i64 n, .int .i64 s] 23)).alloc (.cells #[.int .i64 n2, .int .i64 s2] 23)) 23 #[.int .i64 0, .int .i64 0] (n := w.heap.size + 1 + 1) (by simp)
 go_enter Tryz.func87, Tryz.ntmps87
 go_wp2_with fail
 refine (HS.out _ _ _ (Blk.new' _ _ _ (by simp))).mono ?_
 rintro e w1 ⟨rfl, hb⟩
 replace hb0 := (hb0.alloc _).step hb
 replace hb2 := (hb2.alloc _).step hb
 replace hb1 := (hb1.alloc _).step hb
 have c0 := hb0.cell 0
 have c1 := hb0.cell 1
 have e0 := hb2.cell 0
 have e1 := hb2.cell 1
 simp at c0 c1 e0 e1
 go_wp2_with fail
 go_region_held3 (fun w' => (Blk w' (w.heap.size + 1 + 1) 23 #[.int .i64 0, .int .i64 0]) ∧ (Blk w' w.heap.size 23 #[.int .i64 n, .int .i64 s]) ∧ (Blk w' (w.heap.size + 1) 23 #[.int .i64 n2, .int .i64 s2]) ∧ (w'.cell? ⟨w.heap.size, 0, none⟩ = some (.int .i64 n) ∧ w'.cell? ⟨w.heap.size, 1, none⟩ = some (.int .i64 s)) ∧ w'.cell? ⟨w.heap.size + 1, 0, none⟩ = some (.int .i64 n2) ∧ w'.cell? ⟨w.heap.size + 1, 1, none⟩ = some (.int .i64 s2)) ((go_split_ands; (repeat' apply And.intro) <;> first | assumption | exact keep1 (by assumption) (by assumption) | exact Blk.step (by assumption) (by assumption)))
   (first
     | (go_at_call 130; refine (HA.out _).mono ?_; rintro e w' ⟨rfl, hb'⟩)
     | (go_at_call 132; refine (HP.out _).mono ?_; rintro e w' ⟨rfl, hb'⟩)
     | (go_at_call 129; refine (HM.out _).mono ?_; rintro e w' ⟨rfl, hb'⟩))
 go_split_ands
 clear k6 k7
 go_wp2_with fail
 refine (HB.out _).mono ?_
 rintro e w3 ⟨rfl, hb3⟩
 have hr : Blk w3 (w.heap.size + 1 + 1) 23 #[.int .i64 0, .int .i64 0] := Blk.step (by assumption) hb3
 have hr0 : Blk w3 w.heap.size 23 #[.int .i64 n, .int .i64 s] := Blk.step (by assumption) hb3
 have hr2 : Blk w3 (w.heap.size + 1) 23 #[.int .i64 n2, .int .i64 s2] := Blk.step (by assumption) hb3
 go_wp2_with fail
 refine (HE.out _).mono ?_
 rintro e w4 ⟨rfl, hb4⟩
 replace hr := hr.step hb4
 go_wp2_with (first | (refine wpList_store_blk hr rfl _ _ _ (by rfl) _ (by rfl) (by rfl) (by repeat first | with_reducible first | exact hr | apply Blk.alloc | apply Blk.drew | refine Blk.far ?_ (by simp <;> omega) _ | refine Blk.turn ?_ ‹_› (by omega)) (by rfl) (by kernel_rfl) (by simp [Value.oneCell']) ?_; intro wt hrn ht))
 refine ret_blk2 rfl hrn rfl Tryz.underlying23 rfl (by kernel_rfl) rfl ?_
 exact ⟨rfl, by (repeat' first | (with_reducible first | exact .refl _ _ | assumption | apply balloc | apply Below.drew | apply bset | refine bstep ?_ ‹_› | refine bturn ?_ ‹_› ?_) | go_size)⟩
set_option maxHeartbeats 4000000 in
theorem div_near (n s n2 s2 : Int) (HS : Hid (∀ g c (w : World), Blk w g 23 #[.int .i64 n, .int .i64 s, .int .i64 n2, .int .i64 s2] → Calls Tryz.prog 127 #[.slice (some ⟨g, 0, none⟩) 2 c] w fun e w' => e = .returned (.int .i64 0) ∧ Below w.heap.size w w')) (A B P K hi lo : Nat) (hz : ¬ n2 = 0) (k6 : IntKind.i64.wrap (6 - s) = 6 - s) (k7 : IntKind.i64.wrap (6 - s + s2) = (K : Int))
   (HA : Hid (∀ W, Calls Tryz.prog 130 #[.agg #[.int .i64 n, .int .i64 s]] W fun e w' => e = .returned (.int .u64 (A : Int)) ∧ Below W.heap.size W w'))
   (HB : Hid (∀ W, Calls Tryz.prog 130 #[.agg #[.int .i64 n2, .int .i64 s2]] W fun e w' => e = .returned (.int .u64 (B : Int)) ∧ Below W.heap.size W w'))
   (HP : Hid (∀ W, Calls Tryz.prog 132 #[.int .i64 (K : Int)] W fun e w' => e = .returned (.int .u64 (P : Int)) ∧ Below W.heap.size W w'))
   (HM : Hid (∀ W, Calls Tryz.prog 129 #[.int .u64 (A : Int), .int .u64 (P : Int)] W fun e w' => e = .returned (.tuple #[.int .u64 (hi : Int), .int .u64 (lo : Int)]) ∧ Below W.heap.size W w')) (E : Nat) (p q : Bool) (r : Res) (hp : decide (n < 0) = p) (hq : decide (n2 < 0) = q)
   (HE : Hid (∀ W, Calls Tryz.prog 131 #[.int .u64 (hi : Int), .int .u64 (lo : Int), .int .u64 (B : Int)] W fun e w' => e = .returned (.tuple #[.int .u64 (E : Int), .bool true]) ∧ Below W.heap.size W w'))
   (HD : Hid (∀ W, Calls Tryz.prog 124 #[.agg #[.int .u64 (E : Int), .int .i64 6], .bool (p != q)] W fun e w' => e = .returned (.tuple #[.agg #[.int .i64 r.n, .int .i64 r.s], .int .i64 r.e]) ∧ Below W.heap.size W w')) (w : World) :
   Calls Tryz.prog 87 #[.agg #[.int .i64 n, .int .i64 s], .agg #[.int .i64 n2, .int .i64 s2]] w fun e w' => e = .returned (.tuple #[.agg #[.int .i64 r.n, .int .i64 r.s], .int .i64 r.e]) ∧ Below w.heap.size w w' := by
 have hb0 := ((Blk.new w 23 #[.int .i64 n, .int .i64 s]).alloc (.cells #[.int .i64 n2, .int .i64 s2] 23)).alloc (.cells #[.int .i64 0, .int .i64 0] 23)
 have hb2 := (Blk.new' (w.alloc (.cells #[.int .i64 n, .int .i64 s] 23)) 23 #[.int .i64 n2, .int .i64 s2] (n := w.heap.size + 1) (by simp)).alloc (.cells #[.int .i64 0, .int .i64 0] 23)
 have hb1 := Blk.new' ((w.alloc (.cells #[.int .i64 n, .int .i64 s] 23)).alloc (.cells #[.int .i64 n2, .int .i64 s2] 23)) 23 #[.int .i64 0, .int .i64 0] (n := w.heap.size + 1 + 1) (by simp)
 go_enter Tryz.func87, Tryz.ntmps87
 go_wp2_with fail
 refine (HS.out _ _ _ (Blk.new' _ _ _ (by simp))).mono ?_
 rintro e w1 ⟨rfl, hb⟩
 replace hb0 := (hb0.alloc _).step hb
 replace hb2 := (hb2.alloc _).step hb
 replace hb1 := (hb1.alloc _).step hb
 have c0 := hb0.cell 0
 have c1 := hb0.cell 1
 have e0 := hb2.cell 0
 have e1 := hb2.cell 1
 simp at c0 c1 e0 e1
 go_wp2_with fail
 go_region_held3 (fun w' => (Blk w' (w.heap.size + 1 + 1) 23 #[.int .i64 0, .int .i64 0]) ∧ (Blk w' w.heap.size 23 #[.int .i64 n, .int .i64 s]) ∧ (Blk w' (w.heap.size + 1) 23 #[.int .i64 n2, .int .i64 s2]) ∧ (w'.cell? ⟨w.heap.size, 0, none⟩ = some (.int .i64 n) ∧ w'.cell? ⟨w.heap.size, 1, none⟩ = some (.int .i64 s)) ∧ w'.cell? ⟨w.heap.size + 1, 0, none⟩ = some (.int .i64 n2) ∧ w'.cell? ⟨w.heap.size + 1, 1, none⟩ = some (.int .i64 s2)) ((go_split_ands; (repeat' apply And.intro) <;> first | assumption | exact keep1 (by assumption) (by assumption) | exact Blk.step (by assumption) (by assumption)))
   (first
     | (go_at_call 130; refine (HA.out _).mono ?_; rintro e w' ⟨rfl, hb'⟩)
     | (go_at_call 132; refine (HP.out _).mono ?_; rintro e w' ⟨rfl, hb'⟩)
     | (go_at_call 129; refine (HM.out _).mono ?_; rintro e w' ⟨rfl, hb'⟩))
 go_split_ands
 clear k6 k7
 go_wp2_with fail
 refine (HB.out _).mono ?_
 rintro e w3 ⟨rfl, hb3⟩
 have hr : Blk w3 (w.heap.size + 1 + 1) 23 #[.int .i64 0, .int .i64 0] := Blk.step (by assumption) hb3
 have hr0 : Blk w3 w.heap.size 23 #[.int .i64 n, .int .i64 s] := Blk.step (by assumption) hb3
 have hr2 : Blk w3 (w.heap.size + 1) 23 #[.int .i64 n2, .int .i64 s2] := Blk.step (by assumption) hb3
 go_wp2_with fail
 refine (HE.out _).mono ?_
 rintro e w4 ⟨rfl, hb4⟩
 replace hr := hr.step hb4
 replace hr0 := hr0.step hb4
 replace hr2 := hr2.step hb4
 have f0 := hr0.cell 0
 have f2 := hr2.cell 0
 simp at f0 f2
 go_wp2_with fail
 refine (HD.out _).mono ?_
 rintro e w5 ⟨rfl, hb5⟩
 replace hr := hr.step hb5
 go_wp2_with (first | (refine wpList_store_blk hr rfl _ _ _ (by rfl) _ (by rfl) (by rfl) (by repeat first | with_reducible first | exact hr | apply Blk.alloc | apply Blk.drew | refine Blk.far ?_ (by simp <;> omega) _ | refine Blk.turn ?_ ‹_› (by omega)) (by rfl) (by kernel_rfl) (by simp [Value.oneCell']) ?_; intro wt hrn ht))
 refine ret_blk2 rfl hrn rfl Tryz.underlying23 rfl (by kernel_rfl) rfl ?_
 exact ⟨rfl, by (repeat' first | (with_reducible first | exact .refl _ _ | assumption | apply balloc | apply Below.drew | apply bset | refine bstep ?_ ‹_› | refine bturn ?_ ‹_› ?_) | go_size)⟩
theorem size_lit (n s : Int) (A : Nat) (h0 : -999999999999 ≤ n) (h1 : n ≤ 999999999999) (hA : mag n = (A : Int)) (w : World) :
   Calls Tryz.prog 130 #[.agg #[.int .i64 n, .int .i64 s]] w fun e w' => e = .returned (.int .u64 (A : Int)) ∧ Below w.heap.size w w' := by
 refine (size_any n s h0 h1 w).mono ?_
 rintro e w' ⟨rfl, rfl⟩
 exact ⟨by rw [hA], by (repeat' first | (with_reducible first | exact .refl _ _ | assumption | apply balloc | apply Below.drew | apply bset | refine bstep ?_ ‹_› | refine bturn ?_ ‹_› ?_) | go_size)⟩
theorem power_lit (K P : Nat) (hK : K ≤ 12) (hP : 10 ^ K = P) (w : World) : Calls Tryz.prog 132 #[.int .i64 (K : Int)] w fun e w' => e = .returned (.int .u64 (P : Int)) ∧ Below w.heap.size w w' := by
 refine (power_any (K : Int) (by omega) (by omega) w).mono ?_
 rintro e w' ⟨rfl, rfl⟩
 exact ⟨by rw [Int.toNat_natCast, ← hP]; rfl, by (repeat' first | (with_reducible first | exact .refl _ _ | assumption | apply balloc | apply Below.drew | apply bset | refine bstep ?_ ‹_› | refine bturn ?_ ‹_› ?_) | go_size)⟩
theorem mul64_lit (x y hi lo : Nat) (hx : x < 18446744073709551616) (hy : y < 18446744073709551616) (h1 : x * y / 18446744073709551616 = hi) (h2 : x * y % 18446744073709551616 = lo) (w : World) :
   Calls Tryz.prog 129 #[.int .u64 (x : Int), .int .u64 (y : Int)] w fun e w' => e = .returned (.tuple #[.int .u64 (hi : Int), .int .u64 (lo : Int)]) ∧ Below w.heap.size w w' := by
 refine (Tryz.bits_Mul64 x y hx hy w).mono ?_
 rintro e w' ⟨rfl, rfl⟩
 exact ⟨by rw [h1, h2], by (repeat' first | (with_reducible first | exact .refl _ _ | assumption | apply balloc | apply Below.drew | apply bset | refine bstep ?_ ‹_› | refine bturn ?_ ‹_› ?_) | go_size)⟩
theorem mag_lt {n : Int} {A : Nat} (b3 : -999999999999 ≤ n) (b4 : n ≤ 999999999999) (hA : mag n = (A : Int)) : A ≤ 999999999999 := by have := mag_bd b3 b4; omega
theorem mag_ex (n : Int) : ∃ A : Nat, mag n = (A : Int) := ⟨(mag n).toNat, (Int.toNat_of_nonneg (mag_nn n)).symm⟩
theorem div_any (n s n2 s2 : Int) (hn : I64 n) (hs : I64 s) (hn2 : I64 n2) (hs2 : I64 s2) (w : World) :
   Calls Tryz.prog 87 #[.agg #[.int .i64 n, .int .i64 s], .agg #[.int .i64 n2, .int .i64 s2]] w fun e w' => e = .returned (.tuple #[.agg #[.int .i64 (divS n s n2 s2).n, .int .i64 (divS n s n2 s2).s], .int .i64 (divS n s n2 s2).e]) ∧ Below w.heap.size w w' := by
 have hall := fun g c w h => all_2 n s n2 s2 hn hs hn2 hs2 g c 23 w h
 by_cases h : (soundS n s && soundS n2 s2) = true
 · rw [if_pos h] at hall
   unfold divS
   rw [if_pos h]
   have h' := h
   simp only [Bool.and_eq_true] at h'
   obtain ⟨b1, b2, b3, b4, _⟩ := sound_bd h'.1
   obtain ⟨d1, d2, d3, d4, _⟩ := sound_bd h'.2
   by_cases hz : n2 = 0
   · rw [if_pos hz]
     exact div_zero n s n2 s2 (Lib.hid hall) hz w
   · rw [if_neg hz]
     obtain ⟨A, hA⟩ := mag_ex n
     obtain ⟨B, hB⟩ := mag_ex n2
     obtain ⟨K, hK⟩ : ∃ K : Nat, 6 - s + s2 = (K : Int) := ⟨(6 - s + s2).toNat, by omega⟩
     have hA1 := mag_lt b3 b4 hA
     have hB1 := mag_lt d3 d4 hB
     have hB0 : 0 < B := by unfold mag at hB; split at hB <;> omega
     have k6 : IntKind.i64.wrap (6 - s) = 6 - s := IntWalk.i64_in _ (by omega)
     have k7 : IntKind.i64.wrap (6 - s + s2) = (K : Int) := by rw [hK]; exact IntWalk.i64_in _ (by omega)
     have hK12 : K ≤ 12 := by omega
     obtain ⟨P, hP⟩ : ∃ P, 10 ^ K = P := ⟨_, rfl⟩
     have hP12 : P ≤ 1000000000000 := by rw [← hP, show 1000000000000 = 10 ^ 12 by decide]; exact Nat.pow_le_pow_right (by decide) hK12
     rw [hA, hB, hK, Int.toNat_natCast, Int.toNat_natCast, Int.toNat_natCast, hP]
     obtain ⟨hi, hhi⟩ : ∃ hi, A * P / 18446744073709551616 = hi := ⟨_, rfl⟩
     obtain ⟨lo, hlo⟩ : ∃ lo, A * P % 18446744073709551616 = lo := ⟨_, rfl⟩
     have hN : hi * 18446744073709551616 + lo = A * P := by omega
     have HA := Lib.hid (fun W => size_lit n s A b3 b4 hA W)
     have HB := Lib.hid (fun W => size_lit n2 s2 B d3 d4 hB W)
     have HP := Lib.hid (fun W => power_lit K P hK12 hP W)
     have HM := Lib.hid (fun W => mul64_lit A P hi lo (by omega) (by omega) hhi hlo W)
     by_cases hfar : B ≤ hi
     · have hbig : 18446744073709551616 ≤ evenQ (A * P) B := by
         have h1 : 18446744073709551616 ≤ A * P / B := by
           rw [Nat.le_div_iff_mul_le hB0, ← hN]
           have := Nat.mul_le_mul_left 18446744073709551616 hfar
           omega
         unfold evenQ
         omega
       rw [dec_huge (by omega)]
       exact div_far n s n2 s2 (Lib.hid hall) A B P K hi lo hz k6 k7 HA HB HP HM (Lib.hid (fun W => even_far hi lo B hfar W)) w
     · have hE64 : evenQ (A * P) B < 18446744073709551616 := by
         rw [← hP]
         refine no_wrap hA1 hK12 hB0 ?_
         rw [hP, Nat.div_lt_iff_lt_mul hB0, ← hN]
         have := Nat.mul_le_mul_left 18446744073709551616 (show hi + 1 ≤ B by omega)
         omega
       refine div_near n s n2 s2 (Lib.hid hall) A B P K hi lo hz k6 k7 HA HB HP HM (evenQ (A * P) B) (decide (n < 0)) (decide (n2 < 0)) _ rfl rfl (Lib.hid (fun W => ?_)) (Lib.hid (fun W => ?_)) w
       · exact even_near hi lo B _ (by omega) (by omega) (by omega) (by rw [hN]; exact Nat.mod_eq_of_lt hE64) W
       · exact dec_any ((evenQ (A * P) B : Nat) : Int) 6 _ (by omega) (by omega) (by omega) (by omega) W
 · rw [if_neg h] at hall
   unfold divS
   rw [if_neg h]
   exact div_form n s n2 s2 (Lib.hid hall) w
end Go.Proofs.YtapilekangmcoaaGreatDoor.Dq
namespace Go.Proofs.YtapilekangmcoaaGreatDoor.Dq
open Go.RowKit
attribute [local go_sem high] run_dec_eql run_dec_neq
theorem mul_form (n s n2 s2 : Int) (HS : Hid (∀ g c (w : World), Blk w g 23 #[.int .i64 n, .int .i64 s, .int .i64 n2, .int .i64 s2] → Calls Tryz.prog 127 #[.slice (some ⟨g, 0, none⟩) 2 c] w fun e w' => e = .returned (.int .i64 2) ∧ Below w.heap.size w w')) (w : World) :
   Calls Tryz.prog 86 #[.agg #[.int .i64 n, .int .i64 s], .agg #[.int .i64 n2, .int .i64 s2]] w fun e w' => e = .returned (.tuple #[.agg #[.int .i64 (⟨0, 0, 2⟩ : Res).n, .int .i64 (⟨0, 0, 2⟩ : Res).s], .int .i64 (⟨0, 0, 2⟩ : Res).e]) ∧ Below w.heap.size w w' := by
 have hb0 := ((Blk.new w 23 #[.int .i64 n, .int .i64 s]).alloc (.cells #[.int .i64 n2, .int .i64 s2] 23)).alloc (.cells #[.int .i64 0, .int .i64 0] 23)
 have hb2 := (Blk.new' (w.alloc (.cells #[.int .i64 n, .int .i64 s] 23)) 23 #[.int .i64 n2, .int .i64 s2] (n := w.heap.size + 1) (by simp)).alloc (.cells #[.int .i64 0, .int .i64 0] 23)
 have hb1 := Blk.new' ((w.alloc (.cells #[.int .i64 n, .int .i64 s] 23)).alloc (.cells #[.int .i64 n2, .int .i64 s2] 23)) 23 #[.int .i64 0, .int .i64 0] (n := w.heap.size + 1 + 1) (by simp)
 go_enter Tryz.func86, Tryz.ntmps86
 go_wp2_with fail
 refine (HS.out _ _ _ (Blk.new' _ _ _ (by simp))).mono ?_
 rintro e w1 ⟨rfl, hb⟩
 replace hb0 := (hb0.alloc _).step hb
 replace hb2 := (hb2.alloc _).step hb
 replace hb1 := (hb1.alloc _).step hb
 have c0 := hb0.cell 0
 have c1 := hb0.cell 1
 have e0 := hb2.cell 0
 have e1 := hb2.cell 1
 simp at c0 c1 e0 e1
 go_wp2_with (first | (refine wpList_store_blk hb1 rfl _ _ _ (by rfl) _ (by rfl) (by rfl) (by repeat first | with_reducible first | exact hb1 | apply Blk.alloc | apply Blk.drew | refine Blk.far ?_ (by simp <;> omega) _ | refine Blk.turn ?_ ‹_› (by omega)) (by rfl) (by kernel_rfl) (by simp [Value.oneCell']) ?_; intro wt hb1n ht))
 refine ret_blk2 rfl hb1n rfl Tryz.underlying23 rfl (by kernel_rfl) rfl ?_
 exact ⟨rfl, by (repeat' first | (with_reducible first | exact .refl _ _ | assumption | apply balloc | apply Below.drew | apply bset | refine bstep ?_ ‹_› | refine bturn ?_ ‹_› ?_) | go_size)⟩
set_option maxHeartbeats 4000000 in
theorem mul_far1 (n s n2 s2 : Int) (HS : Hid (∀ g c (w : World), Blk w g 23 #[.int .i64 n, .int .i64 s, .int .i64 n2, .int .i64 s2] → Calls Tryz.prog 127 #[.slice (some ⟨g, 0, none⟩) 2 c] w fun e w' => e = .returned (.int .i64 0) ∧ Below w.heap.size w w')) (A B P hi lo : Nat) (sc : Int) (k5 : IntKind.i64.wrap (s + s2) = sc) (k6 : IntKind.i64.wrap (sc - 6) = sc - 6) (sc0 : 0 ≤ sc) (sc12 : sc ≤ 12) (hmx : max (0 : Int) (sc - 6) = 0) (hmn : min sc 6 = sc)
   (HA : Hid (∀ W, Calls Tryz.prog 130 #[.agg #[.int .i64 n, .int .i64 s]] W fun e w' => e = .returned (.int .u64 (A : Int)) ∧ Below W.heap.size W w'))
   (HB : Hid (∀ W, Calls Tryz.prog 130 #[.agg #[.int .i64 n2, .int .i64 s2]] W fun e w' => e = .returned (.int .u64 (B : Int)) ∧ Below W.heap.size W w'))
   (HP : Hid (∀ W, Calls Tryz.prog 132 #[.int .i64 0] W fun e w' => e = .returned (.int .u64 (P : Int)) ∧ Below W.heap.size W w'))
   (HM : Hid (∀ W, Calls Tryz.prog 129 #[.int .u64 (A : Int), .int .u64 (B : Int)] W fun e w' => e = .returned (.tuple #[.int .u64 (hi : Int), .int .u64 (lo : Int)]) ∧ Below W.heap.size W w'))
   (HE : Hid (∀ W, Calls Tryz.prog 131 #[.int .u64 (hi : Int), .int .u64 (lo : Int), .int .u64 (P : Int)] W fun e w' => e = .returned (.tuple #[.int .u64 0, .bool false]) ∧ Below W.heap.size W w')) (w : World) :
   Calls Tryz.prog 86 #[.agg #[.int .i64 n, .int .i64 s], .agg #[.int .i64 n2, .int .i64 s2]] w fun e w' => e = .returned (.tuple #[.agg #[.int .i64 (⟨0, 0, 3⟩ : Res).n, .int .i64 (⟨0, 0, 3⟩ : Res).s], .int .i64 (⟨0, 0, 3⟩ : Res).e]) ∧ Below w.heap.size w w' := by
 have hb0 := ((Blk.new w 23 #[.int .i64 n, .int .i64 s]).alloc (.cells #[.int .i64 n2, .int .i64 s2] 23)).alloc (.cells #[.int .i64 0, .int .i64 0] 23)
 have hb2 := (Blk.new' (w.alloc (.cells #[.int .i64 n, .int .i64 s] 23)) 23 #[.int .i64 n2, .int .i64 s2] (n := w.heap.size + 1) (by simp)).alloc (.cells #[.int .i64 0, .int .i64 0] 23)
 have hb1 := Blk.new' ((w.alloc (.cells #[.int .i64 n, .int .i64 s] 23)).alloc (.cells #[.int .i64 n2, .int .i64 s2] 23)) 23 #[.int .i64 0, .int .i64 0] (n := w.heap.size + 1 + 1) (by simp)
 go_enter Tryz.func86, Tryz.ntmps86
 go_wp2_with fail
 refine (HS.out _ _ _ (Blk.new' _ _ _ (by simp))).mono ?_
 rintro e w1 ⟨rfl, hb⟩
 replace hb0 := (hb0.alloc _).step hb
 replace hb2 := (hb2.alloc _).step hb
 replace hb1 := (hb1.alloc _).step hb
 have c0 := hb0.cell 0
 have c1 := hb0.cell 1
 have e0 := hb2.cell 0
 have e1 := hb2.cell 1
 simp at c0 c1 e0 e1
 go_wp2_with fail
 go_region_held3 (fun w' => (Blk w' (w.heap.size + 1 + 1) 23 #[.int .i64 0, .int .i64 0]) ∧ (Blk w' w.heap.size 23 #[.int .i64 n, .int .i64 s]) ∧ (Blk w' (w.heap.size + 1) 23 #[.int .i64 n2, .int .i64 s2]) ∧ (w'.cell? ⟨w.heap.size, 0, none⟩ = some (.int .i64 n) ∧ w'.cell? ⟨w.heap.size, 1, none⟩ = some (.int .i64 s)) ∧ w'.cell? ⟨w.heap.size + 1, 0, none⟩ = some (.int .i64 n2) ∧ w'.cell? ⟨w.heap.size + 1, 1, none⟩ = some (.int .i64 s2)) ((go_split_ands; (repeat' apply And.intro) <;> first | assumption | exact keep1 (by assumption) (by assumption) | exact Blk.step (by assumption) (by assumption)))
   (first
     | (go_at_call_of 130 (Value.agg #[Value.int .i64 n, Value.int .i64 s]); refine (HA.out _).mono ?_; rintro e w' ⟨rfl, hb'⟩)
     | (go_at_call_of 130 (Value.agg #[Value.int .i64 n2, Value.int .i64 s2]); refine (HB.out _).mono ?_; rintro e w' ⟨rfl, hb'⟩)
     | (go_at_call 129; refine (HM.out _).mono ?_; rintro e w' ⟨rfl, hb'⟩))
 all_goals
   go_split_ands
   go_wp2_with fail
   refine (HP.out _).mono ?_
   rintro e w3 ⟨rfl, hb3⟩
   have hr : Blk w3 (w.heap.size + 1 + 1) 23 #[.int .i64 0, .int .i64 0] := Blk.step (by assumption) hb3
   have hr0 : Blk w3 w.heap.size 23 #[.int .i64 n, .int .i64 s] := Blk.step (by assumption) hb3
   have hr2 : Blk w3 (w.heap.size + 1) 23 #[.int .i64 n2, .int .i64 s2] := Blk.step (by assumption) hb3
   go_wp2_with fail
   refine (HE.out _).mono ?_
   rintro e w4 ⟨rfl, hb4⟩
   replace hr := hr.step hb4
   go_wp2_with (first | (refine wpList_store_blk hr rfl _ _ _ (by rfl) _ (by rfl) (by rfl) (by repeat first | with_reducible first | exact hr | apply Blk.alloc | apply Blk.drew | refine Blk.far ?_ (by simp <;> omega) _ | refine Blk.turn ?_ ‹_› (by omega)) (by rfl) (by kernel_rfl) (by simp [Value.oneCell']) ?_; intro wt hrn ht))
   refine ret_blk2 rfl hrn rfl Tryz.underlying23 rfl (by kernel_rfl) rfl ?_
   exact ⟨rfl, by (repeat' first | (with_reducible first | exact .refl _ _ | assumption | apply balloc | apply Below.drew | apply bset | refine bstep ?_ ‹_› | refine bturn ?_ ‹_› ?_) | go_size)⟩
set_option maxHeartbeats 4000000 in
theorem mul_near1 (n s n2 s2 : Int) (HS : Hid (∀ g c (w : World), Blk w g 23 #[.int .i64 n, .int .i64 s, .int .i64 n2, .int .i64 s2] → Calls Tryz.prog 127 #[.slice (some ⟨g, 0, none⟩) 2 c] w fun e w' => e = .returned (.int .i64 0) ∧ Below w.heap.size w w')) (A B P hi lo : Nat) (sc : Int) (k5 : IntKind.i64.wrap (s + s2) = sc) (k6 : IntKind.i64.wrap (sc - 6) = sc - 6) (sc0 : 0 ≤ sc) (sc12 : sc ≤ 12) (hmx : max (0 : Int) (sc - 6) = 0) (hmn : min sc 6 = sc)
   (HA : Hid (∀ W, Calls Tryz.prog 130 #[.agg #[.int .i64 n, .int .i64 s]] W fun e w' => e = .returned (.int .u64 (A : Int)) ∧ Below W.heap.size W w'))
   (HB : Hid (∀ W, Calls Tryz.prog 130 #[.agg #[.int .i64 n2, .int .i64 s2]] W fun e w' => e = .returned (.int .u64 (B : Int)) ∧ Below W.heap.size W w'))
   (HP : Hid (∀ W, Calls Tryz.prog 132 #[.int .i64 0] W fun e w' => e = .returned (.int .u64 (P : Int)) ∧ Below W.heap.size W w'))
   (HM : Hid (∀ W, Calls Tryz.prog 129 #[.int .u64 (A : Int), .int .u64 (B : Int)] W fun e w' => e = .returned (.tuple #[.int .u64 (hi : Int), .int .u64 (lo : Int)]) ∧ Below W.heap.size W w')) (E : Nat) (p q : Bool) (r : Res) (hp : decide (n < 0) = p) (hq : decide (n2 < 0) = q)
   (HE : Hid (∀ W, Calls Tryz.prog 131 #[.int .u64 (hi : Int), .int .u64 (lo : Int), .int .u64 (P : Int)] W fun e w' => e = .returned (.tuple #[.int .u64 (E : Int), .bool true]) ∧ Below W.heap.size W w'))
   (HD : Hid (∀ W, Calls Tryz.prog 124 #[.agg #[.int .u64 (E : Int), .int .i64 sc], .bool (p != q)] W fun e w' => e = .returned (.tuple #[.agg #[.int .i64 r.n, .int .i64 r.s], .int .i64 r.e]) ∧ Below W.heap.size W w')) (w : World) :
   Calls Tryz.prog 86 #[.agg #[.int .i64 n, .int .i64 s], .agg #[.int .i64 n2, .int .i64 s2]] w fun e w' => e = .returned (.tuple #[.agg #[.int .i64 r.n, .int .i64 r.s], .int .i64 r.e]) ∧ Below w.heap.size w w' := by
 have hb0 := ((Blk.new w 23 #[.int .i64 n, .int .i64 s]).alloc (.cells #[.int .i64 n2, .int .i64 s2] 23)).alloc (.cells #[.int .i64 0, .int .i64 0] 23)
 have hb2 := (Blk.new' (w.alloc (.cells #[.int .i64 n, .int .i64 s] 23)) 23 #[.int .i64 n2, .int .i64 s2] (n := w.heap.size + 1) (by simp)).alloc (.cells #[.int .i64 0, .int .i64 0] 23)
 have hb1 := Blk.new' ((w.alloc (.cells #[.int .i64 n, .int .i64 s] 23)).alloc (.cells #[.int .i64 n2, .int .i64 s2] 23)) 23 #[.int .i64 0, .int .i64 0] (n := w.heap.size + 1 + 1) (by simp)
 go_enter Tryz.func86, Tryz.ntmps86
 go_wp2_with fail
 refine (HS.out _ _ _ (Blk.new' _ _ _ (by simp))).mono ?_
 rintro e w1 ⟨rfl, hb⟩
 replace hb0 := (hb0.alloc _).step hb
 replace hb2 := (hb2.alloc _).step hb
 replace hb1 := (hb1.alloc _).step hb
 have c0 := hb0.cell 0
 have c1 := hb0.cell 1
 have e0 := hb2.cell 0
 have e1 := hb2.cell 1
 simp at c0 c1 e0 e1
 go_wp2_with fail
 go_region_held3 (fun w' => (Blk w' (w.heap.size + 1 + 1) 23 #[.int .i64 0, .int .i64 0]) ∧ (Blk w' w.heap.size 23 #[.int .i64 n, .int .i64 s]) ∧ (Blk w' (w.heap.size + 1) 23 #[.int .i64 n2, .int .i64 s2]) ∧ (w'.cell? ⟨w.heap.size, 0, none⟩ = some (.int .i64 n) ∧ w'.cell? ⟨w.heap.size, 1, none⟩ = some (.int .i64 s)) ∧ w'.cell? ⟨w.heap.size + 1, 0, none⟩ = some (.int .i64 n2) ∧ w'.cell? ⟨w.heap.size + 1, 1, none⟩ = some (.int .i64 s2)) ((go_split_ands; (repeat' apply And.intro) <;> first | assumption | exact keep1 (by assumption) (by assumption) | exact Blk.step (by assumption) (by assumption)))
   (first
     | (go_at_call_of 130 (Value.agg #[Value.int .i64 n, Value.int .i64 s]); refine (HA.out _).mono ?_; rintro e w' ⟨rfl, hb'⟩)
     | (go_at_call_of 130 (Value.agg #[Value.int .i64 n2, Value.int .i64 s2]); refine (HB.out _).mono ?_; rintro e w' ⟨rfl, hb'⟩)
     | (go_at_call 129; refine (HM.out _).mono ?_; rintro e w' ⟨rfl, hb'⟩))
 all_goals
   go_split_ands
   go_wp2_with fail
   refine (HP.out _).mono ?_
   rintro e w3 ⟨rfl, hb3⟩
   have hr : Blk w3 (w.heap.size + 1 + 1) 23 #[.int .i64 0, .int .i64 0] := Blk.step (by assumption) hb3
   have hr0 : Blk w3 w.heap.size 23 #[.int .i64 n, .int .i64 s] := Blk.step (by assumption) hb3
   have hr2 : Blk w3 (w.heap.size + 1) 23 #[.int .i64 n2, .int .i64 s2] := Blk.step (by assumption) hb3
   go_wp2_with fail
   refine (HE.out _).mono ?_
   rintro e w4 ⟨rfl, hb4⟩
   replace hr := hr.step hb4
   replace hr0 := hr0.step hb4
   replace hr2 := hr2.step hb4
   have f0 := hr0.cell 0
   have f2 := hr2.cell 0
   simp at f0 f2
   go_wp2_with fail
   refine (HD.out _).mono ?_
   rintro e w5 ⟨rfl, hb5⟩
   replace hr := hr.step hb5
   go_wp2_with (first | (refine wpList_store_blk hr rfl _ _ _ (by rfl) _ (by rfl) (by rfl) (by repeat first | with_reducible first | exact hr | apply Blk.alloc | apply Blk.drew | refine Blk.far ?_ (by simp <;> omega) _ | refine Blk.turn ?_ ‹_› (by omega)) (by rfl) (by kernel_rfl) (by simp [Value.oneCell']) ?_; intro wt hrn ht))
   refine ret_blk2 rfl hrn rfl Tryz.underlying23 rfl (by kernel_rfl) rfl ?_
   exact ⟨rfl, by (repeat' first | (with_reducible first | exact .refl _ _ | assumption | apply balloc | apply Below.drew | apply bset | refine bstep ?_ ‹_› | refine bturn ?_ ‹_› ?_) | go_size)⟩
set_option maxHeartbeats 4000000 in
theorem mul_far2 (n s n2 s2 : Int) (HS : Hid (∀ g c (w : World), Blk w g 23 #[.int .i64 n, .int .i64 s, .int .i64 n2, .int .i64 s2] → Calls Tryz.prog 127 #[.slice (some ⟨g, 0, none⟩) 2 c] w fun e w' => e = .returned (.int .i64 0) ∧ Below w.heap.size w w')) (A B P hi lo : Nat) (sc : Int) (k5 : IntKind.i64.wrap (s + s2) = sc) (k6 : IntKind.i64.wrap (sc - 6) = sc - 6) (sc0 : 0 ≤ sc) (sc12 : sc ≤ 12) (hmx : max (0 : Int) (sc - 6) = sc - 6) (hmn : min sc 6 = 6)
   (HA : Hid (∀ W, Calls Tryz.prog 130 #[.agg #[.int .i64 n, .int .i64 s]] W fun e w' => e = .returned (.int .u64 (A : Int)) ∧ Below W.heap.size W w'))
   (HB : Hid (∀ W, Calls Tryz.prog 130 #[.agg #[.int .i64 n2, .int .i64 s2]] W fun e w' => e = .returned (.int .u64 (B : Int)) ∧ Below W.heap.size W w'))
   (HP : Hid (∀ W, Calls Tryz.prog 132 #[.int .i64 (sc - 6)] W fun e w' => e = .returned (.int .u64 (P : Int)) ∧ Below W.heap.size W w'))
   (HM : Hid (∀ W, Calls Tryz.prog 129 #[.int .u64 (A : Int), .int .u64 (B : Int)] W fun e w' => e = .returned (.tuple #[.int .u64 (hi : Int), .int .u64 (lo : Int)]) ∧ Below W.heap.size W w'))
   (HE : Hid (∀ W, Calls Tryz.prog 131 #[.int .u64 (hi : Int), .int .u64 (lo : Int), .int .u64 (P : Int)] W fun e w' => e = .returned (.tuple #[.int .u64 0, .bool false]) ∧ Below W.heap.size W w')) (w : World) :
   Calls Tryz.prog 86 #[.agg #[.int .i64 n, .int .i64 s], .agg #[.int .i64 n2, .int .i64 s2]] w fun e w' => e = .returned (.tuple #[.agg #[.int .i64 (⟨0, 0, 3⟩ : Res).n, .int .i64 (⟨0, 0, 3⟩ : Res).s], .int .i64 (⟨0, 0, 3⟩ : Res).e]) ∧ Below w.heap.size w w' := by
 have hb0 := ((Blk.new w 23 #[.int .i64 n, .int .i64 s]).alloc (.cells #[.int .i64 n2, .int .i64 s2] 23)).alloc (.cells #[.int .i64 0, .int .i64 0] 23)
 have hb2 := (Blk.new' (w.alloc (.cells #[.int .i64 n, .int .i64 s] 23)) 23 #[.int .i64 n2, .int .i64 s2] (n := w.heap.size + 1) (by simp)).alloc (.cells #[.int .i64 0, .int .i64 0] 23)
 have hb1 := Blk.new' ((w.alloc (.cells #[.int .i64 n, .int .i64 s] 23)).alloc (.cells #[.int .i64 n2, .int .i64 s2] 23)) 23 #[.int .i64 0, .int .i64 0] (n := w.heap.size + 1 + 1) (by simp)
 go_enter Tryz.func86, Tryz.ntmps86
 go_wp2_with fail
 refine (HS.out _ _ _ (Blk.new' _ _ _ (by simp))).mono ?_
 rintro e w1 ⟨rfl, hb⟩
 replace hb0 := (hb0.alloc _).step hb
 replace hb2 := (hb2.alloc _).step hb
 replace hb1 := (hb1.alloc _).step hb
 have c0 := hb0.cell 0
 have c1 := hb0.cell 1
 have e0 := hb2.cell 0
 have e1 := hb2.cell 1
 simp at c0 c1 e0 e1
 go_wp2_with fail
 go_region_held3 (fun w' => (Blk w' (w.heap.size + 1 + 1) 23 #[.int .i64 0, .int .i64 0]) ∧ (Blk w' w.heap.size 23 #[.int .i64 n, .int .i64 s]) ∧ (Blk w' (w.heap.size + 1) 23 #[.int .i64 n2, .int .i64 s2]) ∧ (w'.cell? ⟨w.heap.size, 0, none⟩ = some (.int .i64 n) ∧ w'.cell? ⟨w.heap.size, 1, none⟩ = some (.int .i64 s)) ∧ w'.cell? ⟨w.heap.size + 1, 0, none⟩ = some (.int .i64 n2) ∧ w'.cell? ⟨w.heap.size + 1, 1, none⟩ = some (.int .i64 s2)) ((go_split_ands; (repeat' apply And.intro) <;> first | assumption | exact keep1 (by assumption) (by assumption) | exact Blk.step (by assumption) (by assumption)))
   (first
     | (go_at_call_of 130 (Value.agg #[Value.int .i64 n, Value.int .i64 s]); refine (HA.out _).mono ?_; rintro e w' ⟨rfl, hb'⟩)
     | (go_at_call_of 130 (Value.agg #[Value.int .i64 n2, Value.int .i64 s2]); refine (HB.out _).mono ?_; rintro e w' ⟨rfl, hb'⟩)
     | (go_at_call 129; refine (HM.out _).mono ?_; rintro e w' ⟨rfl, hb'⟩))
 all_goals
   go_split_ands
   go_wp2_with fail
   refine (HP.out _).mono ?_
   rintro e w3 ⟨rfl, hb3⟩
   have hr : Blk w3 (w.heap.size + 1 + 1) 23 #[.int .i64 0, .int .i64 0] := Blk.step (by assumption) hb3
   have hr0 : Blk w3 w.heap.size 23 #[.int .i64 n, .int .i64 s] := Blk.step (by assumption) hb3
   have hr2 : Blk w3 (w.heap.size + 1) 23 #[.int .i64 n2, .int .i64 s2] := Blk.step (by assumption) hb3
   go_wp2_with fail
   refine (HE.out _).mono ?_
   rintro e w4 ⟨rfl, hb4⟩
   replace hr := hr.step hb4
   go_wp2_with (first | (refine wpList_store_blk hr rfl _ _ _ (by rfl) _ (by rfl) (by rfl) (by repeat first | with_reducible first | exact hr | apply Blk.alloc | apply Blk.drew | refine Blk.far ?_ (by simp <;> omega) _ | refine Blk.turn ?_ ‹_› (by omega)) (by rfl) (by kernel_rfl) (by simp [Value.oneCell']) ?_; intro wt hrn ht))
   refine ret_blk2 rfl hrn rfl Tryz.underlying23 rfl (by kernel_rfl) rfl ?_
   exact ⟨rfl, by (repeat' first | (with_reducible first | exact .refl _ _ | assumption | apply balloc | apply Below.drew | apply bset | refine bstep ?_ ‹_› | refine bturn ?_ ‹_› ?_) | go_size)⟩
set_option maxHeartbeats 4000000 in
theorem mul_near2 (n s n2 s2 : Int) (HS : Hid (∀ g c (w : World), Blk w g 23 #[.int .i64 n, .int .i64 s, .int .i64 n2, .int .i64 s2] → Calls Tryz.prog 127 #[.slice (some ⟨g, 0, none⟩) 2 c] w fun e w' => e = .returned (.int .i64 0) ∧ Below w.heap.size w w')) (A B P hi lo : Nat) (sc : Int) (k5 : IntKind.i64.wrap (s + s2) = sc) (k6 : IntKind.i64.wrap (sc - 6) = sc - 6) (sc0 : 0 ≤ sc) (sc12 : sc ≤ 12) (hmx : max (0 : Int) (sc - 6) = sc - 6) (hmn : min sc 6 = 6)
   (HA : Hid (∀ W, Calls Tryz.prog 130 #[.agg #[.int .i64 n, .int .i64 s]] W fun e w' => e = .returned (.int .u64 (A : Int)) ∧ Below W.heap.size W w'))
   (HB : Hid (∀ W, Calls Tryz.prog 130 #[.agg #[.int .i64 n2, .int .i64 s2]] W fun e w' => e = .returned (.int .u64 (B : Int)) ∧ Below W.heap.size W w'))
   (HP : Hid (∀ W, Calls Tryz.prog 132 #[.int .i64 (sc - 6)] W fun e w' => e = .returned (.int .u64 (P : Int)) ∧ Below W.heap.size W w'))
   (HM : Hid (∀ W, Calls Tryz.prog 129 #[.int .u64 (A : Int), .int .u64 (B : Int)] W fun e w' => e = .returned (.tuple #[.int .u64 (hi : Int), .int .u64 (lo : Int)]) ∧ Below W.heap.size W w')) (E : Nat) (p q : Bool) (r : Res) (hp : decide (n < 0) = p) (hq : decide (n2 < 0) = q)
   (HE : Hid (∀ W, Calls Tryz.prog 131 #[.int .u64 (hi : Int), .int .u64 (lo : Int), .int .u64 (P : Int)] W fun e w' => e = .returned (.tuple #[.int .u64 (E : Int), .bool true]) ∧ Below W.heap.size W w'))
   (HD : Hid (∀ W, Calls Tryz.prog 124 #[.agg #[.int .u64 (E : Int), .int .i64 6], .bool (p != q)] W fun e w' => e = .returned (.tuple #[.agg #[.int .i64 r.n, .int .i64 r.s], .int .i64 r.e]) ∧ Below W.heap.size W w')) (w : World) :
   Calls Tryz.prog 86 #[.agg #[.int .i64 n, .int .i64 s], .agg #[.int .i64 n2, .int .i64 s2]] w fun e w' => e = .returned (.tuple #[.agg #[.int .i64 r.n, .int .i64 r.s], .int .i64 r.e]) ∧ Below w.heap.size w w' := by
 have hb0 := ((Blk.new w 23 #[.int .i64 n, .int .i64 s]).alloc (.cells #[.int .i64 n2, .int .i64 s2] 23)).alloc (.cells #[.int .i64 0, .int .i64 0] 23)
 have hb2 := (Blk.new' (w.alloc (.cells #[.int .i64 n, .int .i64 s] 23)) 23 #[.int .i64 n2, .int .i64 s2] (n := w.heap.size + 1) (by simp)).alloc (.cells #[.int .i64 0, .int .i64 0] 23)
 have hb1 := Blk.new' ((w.alloc (.cells #[.int .i64 n, .int .i64 s] 23)).alloc (.cells #[.int .i64 n2, .int .i64 s2] 23)) 23 #[.int .i64 0, .int .i64 0] (n := w.heap.size + 1 + 1) (by simp)
 go_enter Tryz.func86, Tryz.ntmps86
 go_wp2_with fail
 refine (HS.out _ _ _ (Blk.new' _ _ _ (by simp))).mono ?_
 rintro e w1 ⟨rfl, hb⟩
 replace hb0 := (hb0.alloc _).step hb
 replace hb2 := (hb2.alloc _).step hb
 replace hb1 := (hb1.alloc _).step hb
 have c0 := hb0.cell 0
 have c1 := hb0.cell 1
 have e0 := hb2.cell 0
 have e1 := hb2.cell 1
 simp at c0 c1 e0 e1
 go_wp2_with fail
 go_region_held3 (fun w' => (Blk w' (w.heap.size + 1 + 1) 23 #[.int .i64 0, .int .i64 0]) ∧ (Blk w' w.heap.size 23 #[.int .i64 n, .int .i64 s]) ∧ (Blk w' (w.heap.size + 1) 23 #[.int .i64 n2, .int .i64 s2]) ∧ (w'.cell? ⟨w.heap.size, 0, none⟩ = some (.int .i64 n) ∧ w'.cell? ⟨w.heap.size, 1, none⟩ = some (.int .i64 s)) ∧ w'.cell? ⟨w.heap.size + 1, 0, none⟩ = some (.int .i64 n2) ∧ w'.cell? ⟨w.heap.size + 1, 1, none⟩ = some (.int .i64 s2)) ((go_split_ands; (repeat' apply And.intro) <;> first | assumption | exact keep1 (by assumption) (by assumption) | exact Blk.step (by assumption) (by assumption)))
   (first
     | (go_at_call_of 130 (Value.agg #[Value.int .i64 n, Value.int .i64 s]); refine (HA.out _).mono ?_; rintro e w' ⟨rfl, hb'⟩)
     | (go_at_call_of 130 (Value.agg #[Value.int .i64 n2, Value.int .i64 s2]); refine (HB.out _).mono ?_; rintro e w' ⟨rfl, hb'⟩)
     | (go_at_call 129; refine (HM.out _).mono ?_; rintro e w' ⟨rfl, hb'⟩))
 all_goals
   go_split_ands
   go_wp2_with fail
   refine (HP.out _).mono ?_
   rintro e w3 ⟨rfl, hb3⟩
   have hr : Blk w3 (w.heap.size + 1 + 1) 23 #[.int .i64 0, .int .i64 0] := Blk.step (by assumption) hb3
   have hr0 : Blk w3 w.heap.size 23 #[.int .i64 n, .int .i64 s] := Blk.step (by assumption) hb3
   have hr2 : Blk w3 (w.heap.size + 1) 23 #[.int .i64 n2, .int .i64 s2] := Blk.step (by assumption) hb3
   go_wp2_with fail
   refine (HE.out _).mono ?_
   rintro e w4 ⟨rfl, hb4⟩
   replace hr := hr.step hb4
   replace hr0 := hr0.step hb4
   replace hr2 := hr2.step hb4
   have f0 := hr0.cell 0
   have f2 := hr2.cell 0
   simp at f0 f2
   go_wp2_with fail
   refine (HD.out _).mono ?_
   rintro e w5 ⟨rfl, hb5⟩
   replace hr := hr.step hb5
   go_wp2_with (first | (refine wpList_store_blk hr rfl _ _ _ (by rfl) _ (by rfl) (by rfl) (by repeat first | with_reducible first | exact hr | apply Blk.alloc | apply Blk.drew | refine Blk.far ?_ (by simp <;> omega) _ | refine Blk.turn ?_ ‹_› (by omega)) (by rfl) (by kernel_rfl) (by simp [Value.oneCell']) ?_; intro wt hrn ht))
   refine ret_blk2 rfl hrn rfl Tryz.underlying23 rfl (by kernel_rfl) rfl ?_
   exact ⟨rfl, by (repeat' first | (with_reducible first | exact .refl _ _ | assumption | apply balloc | apply Below.drew | apply bset | refine bstep ?_ ‹_› | refine bturn ?_ ‹_› ?_) | go_size)⟩
theorem power_int (k : Int) (P : Nat) (h0 : 0 ≤ k) (h1 : k ≤ 12) (hP : 10 ^ k.toNat = P) (w : World) : Calls Tryz.prog 132 #[.int .i64 k] w fun e w' => e = .returned (.int .u64 (P : Int)) ∧ Below w.heap.size w w' := by
 refine (power_any k h0 h1 w).mono ?_
 rintro e w' ⟨rfl, rfl⟩
 exact ⟨by rw [← hP]; rfl, by (repeat' first | (with_reducible first | exact .refl _ _ | assumption | apply balloc | apply Below.drew | apply bset | refine bstep ?_ ‹_› | refine bturn ?_ ‹_› ?_) | go_size)⟩
theorem mul_any (n s n2 s2 : Int) (hn : I64 n) (hs : I64 s) (hn2 : I64 n2) (hs2 : I64 s2) (w : World) :
   Calls Tryz.prog 86 #[.agg #[.int .i64 n, .int .i64 s], .agg #[.int .i64 n2, .int .i64 s2]] w fun e w' => e = .returned (.tuple #[.agg #[.int .i64 (mulS n s n2 s2).n, .int .i64 (mulS n s n2 s2).s], .int .i64 (mulS n s n2 s2).e]) ∧ Below w.heap.size w w' := by
 have hall := fun g c w h => all_2 n s n2 s2 hn hs hn2 hs2 g c 23 w h
 by_cases h : (soundS n s && soundS n2 s2) = true
 · rw [if_pos h] at hall
   unfold mulS
   rw [if_pos h]
   have h' := h
   simp only [Bool.and_eq_true] at h'
   obtain ⟨b1, b2, b3, b4, _⟩ := sound_bd h'.1
   obtain ⟨d1, d2, d3, d4, _⟩ := sound_bd h'.2
   obtain ⟨A, hA⟩ := mag_ex n
   obtain ⟨B, hB⟩ := mag_ex n2
   have hA1 := mag_lt b3 b4 hA
   have hB1 := mag_lt d3 d4 hB
   obtain ⟨P, hP⟩ : ∃ P, 10 ^ (s + s2 - 6).toNat = P := ⟨_, rfl⟩
   have hP12 : P ≤ 1000000000000 := by rw [← hP, show 1000000000000 = 10 ^ 12 by decide]; exact Nat.pow_le_pow_right (by decide) (by omega)
   have hP0 : 0 < P := by rw [← hP]; exact t10 _
   rw [hA, hB, Int.toNat_natCast, Int.toNat_natCast, hP]
   have k5 : IntKind.i64.wrap (s + s2) = s + s2 := IntWalk.i64_in _ (by omega)
   have k6 : IntKind.i64.wrap (s + s2 - 6) = s + s2 - 6 := IntWalk.i64_in _ (by omega)
   obtain ⟨hi, hhi⟩ : ∃ hi, A * B / 18446744073709551616 = hi := ⟨_, rfl⟩
   obtain ⟨lo, hlo⟩ : ∃ lo, A * B % 18446744073709551616 = lo := ⟨_, rfl⟩
   rw [hhi]
   have hN : hi * 18446744073709551616 + lo = A * B := by omega
   have HA := Lib.hid (fun W => size_lit n s A b3 b4 hA W)
   have HB := Lib.hid (fun W => size_lit n2 s2 B d3 d4 hB W)
   have HM := Lib.hid (fun W => mul64_lit A B hi lo (by omega) (by omega) hhi hlo W)
   have hlo64 : lo < 18446744073709551616 := by omega
   have hEn : evenQ (A * B) P % 18446744073709551616 < 18446744073709551616 := Nat.mod_lt _ (by decide)
   by_cases h6 : s + s2 ≤ 6
   · have HP := Lib.hid (fun W => power_int 0 P (by omega) (by omega) (by rw [← hP]; congr 1; omega) W)
     by_cases hfar : P ≤ hi
     · rw [if_pos hfar]
       exact mul_far1 n s n2 s2 (Lib.hid hall) A B P hi lo (s + s2) k5 k6 (by omega) (by omega) (by omega) (by omega) HA HB HP HM (Lib.hid (fun W => even_far hi lo P hfar W)) w
     · rw [if_neg hfar]
       refine mul_near1 n s n2 s2 (Lib.hid hall) A B P hi lo (s + s2) k5 k6 (by omega) (by omega) (by omega) (by omega) HA HB HP HM (evenQ (A * B) P % 18446744073709551616) (decide (n < 0)) (decide (n2 < 0)) _ rfl rfl (Lib.hid (fun W => ?_)) (Lib.hid (fun W => ?_)) w
       · exact even_near hi lo P _ (by omega) (by omega) (by omega) (by rw [hN]) W
       · have := dec_any ((evenQ (A * B) P % 18446744073709551616 : Nat) : Int) (s + s2) (decide (n < 0) != decide (n2 < 0)) (by omega) (by omega) (by omega) (by omega) W
         rw [show (min (s + s2) 6) = (s + s2) by omega]
         exact this
   · have HP := Lib.hid (fun W => power_int (s + s2 - 6) P (by omega) (by omega) (by rw [← hP]) W)
     by_cases hfar : P ≤ hi
     · rw [if_pos hfar]
       exact mul_far2 n s n2 s2 (Lib.hid hall) A B P hi lo (s + s2) k5 k6 (by omega) (by omega) (by omega) (by omega) HA HB HP HM (Lib.hid (fun W => even_far hi lo P hfar W)) w
     · rw [if_neg hfar]
       refine mul_near2 n s n2 s2 (Lib.hid hall) A B P hi lo (s + s2) k5 k6 (by omega) (by omega) (by omega) (by omega) HA HB HP HM (evenQ (A * B) P % 18446744073709551616) (decide (n < 0)) (decide (n2 < 0)) _ rfl rfl (Lib.hid (fun W => ?_)) (Lib.hid (fun W => ?_)) w
       · exact even_near hi lo P _ (by omega) (by omega) (by omega) (by rw [hN]) W
       · have := dec_any ((evenQ (A * B) P % 18446744073709551616 : Nat) : Int) 6 (decide (n < 0) != decide (n2 < 0)) (by omega) (by omega) (by omega) (by omega) W
         rw [show (min (s + s2) 6) = 6 by omega]
         exact this
 · rw [if_neg h] at hall
   unfold mulS
   rw [if_neg h]
   exact mul_form n s n2 s2 (Lib.hid hall) w
end Go.Proofs.YtapilekangmcoaaGreatDoor.Dq
