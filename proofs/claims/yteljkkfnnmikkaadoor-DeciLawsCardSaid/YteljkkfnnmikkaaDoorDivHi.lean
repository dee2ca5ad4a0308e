/- The walk of bits.Div64 where the upper word is not nought. -/
import Derived.Test.YteljkkfnnmikkaaDoorDiv64
namespace Go.Proofs.YteljkkfnnmikkaaDoor
open Go.RowKit
open Go.Lib hiding intOf

theorem cast_shl (x z : Nat) : (x : Int) * 2 ^ z = ((x * 2 ^ z : Nat) : Int) := by rw [Int.natCast_mul, Int.natCast_pow]; rfl
theorem and_low (x : Nat) (h : x < 18446744073709551616) : bits .and .u64 (x : Int) 4294967295 = ((x % 4294967296 : Nat) : Int) := by
  have h1 := bits_and_u64_nat x 4294967295 h (by decide)
  have h2 : x &&& 4294967295 = x % 4294967296 := Nat.and_two_pow_sub_one_eq_mod x 32
  rw [h2] at h1
  exact h1
theorem sub_wrap {x y u v r : Nat} (hx : u = x % 18446744073709551616) (hy : v = y % 18446744073709551616) (h : x = y + r) (hr : r < 18446744073709551616) : IntKind.u64.wrap ((u : Int) - (v : Int)) = (r : Int) := by
  rw [IntKind.wrap_u64]
  omega

set_option maxHeartbeats 8000000 in
set_option maxRecDepth 100000 in
theorem div64_high {hi lo y z Y H e L a t y1 y0 c1 c0 q1 b q0 d : Nat} (D : D64 hi lo y z Y H e L a t y1 y0 c1 c0 q1 b q0 d) (hh : 0 < hi) (hy : hi < y) (hy64 : y < 18446744073709551616) (hl : lo < 18446744073709551616) (hz : 64 - Lib.bitLen y = z) (hb : Lib.bitLen y ≤ 64) (u v : Nat) (hu : (hi * 18446744073709551616 + lo) / y = u) (hv : (hi * 18446744073709551616 + lo) % y = v) (w : World) :
    Calls Tryd.prog 45 #[.int .u64 (hi : Int), .int .u64 (lo : Int), .int .u64 (y : Int)] w fun e w' => e = .returned (.tuple #[.int .u64 (u : Int), .int .u64 (v : Int)]) ∧ Below w.heap.size w w' := by
  have HZ := Lib.hid (lz_any y z (by rw [show (2 : Nat) ^ 64 = 18446744073709551616 by decide]; exact hy64) hz hb)
  have z63 := D.z63
  have Y1 := D.Y1
  have Y2 := D.Y2
  have aY := D.aY
  have bY := D.bY
  have dY := D.dY
  have H1 := D.Q1.h1
  have H1b := D.Q1.h1b
  have h0 := D.Q1.h0
  have hc := D.Q1.hc
  have hc0 := D.Q0.hc
  have hq1s := D.Q1.small
  have hq0s := D.Q0.small
  have hHa : H ≤ a := by have := D.ha; omega
  have hLa : L ≤ a := by have := D.ha; omega
  have t64 : t < 18446744073709551616 := by rw [D.ht]; exact Nat.mod_lt _ (by decide)
  have fz : IntKind.u64.wrap (z : Int) = (z : Int) := IntWalk.u64_in _ (by omega)
  have fmz : min z 64 = z := by omega
  have fY : IntKind.u64.wrap ((y : Int) * 2 ^ z) = (Y : Int) := by rw [cast_shl, ← D.hY]; exact IntWalk.u64_in _ (by omega)
  have fH : IntKind.u64.wrap ((hi : Int) * 2 ^ z) = (H : Int) := by rw [cast_shl, ← D.hH]; exact IntWalk.u64_in _ (by omega)
  have fe : IntKind.u64.wrap (64 - (z : Int)) = (e : Int) := by rw [show 64 - (z : Int) = (e : Int) by have := D.he; omega]; exact IntWalk.u64_in _ (by have := D.he; omega)
  have fme : min e 64 = e := by have := D.he; omega
  have fL : (lo : Int) / 2 ^ e = (L : Int) := by rw [D.hL, Int.natCast_ediv, Int.natCast_pow]; rfl
  have fo : bits .or .u64 (H : Int) (L : Int) = (a : Int) := by rw [bits_or_u64_nat H L (by omega) (by omega), D.hor]
  have ft : IntKind.u64.wrap ((lo : Int) * 2 ^ z) = (t : Int) := by rw [cast_shl, IntKind.wrap_u64, D.ht]; omega
  have fy0 : bits .and .u64 (Y : Int) 4294967295 = (y0 : Int) := by rw [and_low Y Y2, D.hy0]
  have fc0 : bits .and .u64 (t : Int) 4294967295 = (c0 : Int) := by rw [and_low t t64, D.hc0]
  have fy1 : (Y : Int) / 4294967296 = (y1 : Int) := by rw [D.hy1]; omega
  have fc1 : (t : Int) / 4294967296 = (c1 : Int) := by rw [D.hc1]; omega
  have fyz : ¬ (y1 : Int) = 0 := by omega
  obtain ⟨x0, hx0⟩ : ∃ x0, a / y1 = x0 := ⟨_, rfl⟩
  obtain ⟨p0, hp0⟩ : ∃ p0, a % y1 = p0 := ⟨_, rfl⟩
  have T0 := Trial.start D.Q1
  rw [hx0, hp0] at T0
  have hx0l := T0.le
  have hp0l : p0 < y1 := by rw [← hp0]; exact Nat.mod_lt _ (by omega)
  obtain ⟨m0, hm0⟩ : ∃ m0, x0 * y1 = m0 := ⟨_, rfl⟩
  have hm0a : m0 + p0 = a := by rw [← hm0]; exact T0.eq
  have fx : (a : Int) / (y1 : Int) = (x0 : Int) := by rw [← hx0]; rfl
  have fxw : IntKind.u64.wrap (x0 : Int) = (x0 : Int) := IntWalk.u64_in _ (by omega)
  have fm0 : IntKind.u64.wrap ((x0 : Int) * (y1 : Int)) = (m0 : Int) := by rw [show (x0 : Int) * (y1 : Int) = (m0 : Int) by rw [← hm0, Int.natCast_mul]]; exact IntWalk.u64_in _ (by omega)
  have fp0 : IntKind.u64.wrap ((a : Int) - (m0 : Int)) = (p0 : Int) := by rw [show (a : Int) - (m0 : Int) = (p0 : Int) by omega]; exact IntWalk.u64_in _ (by omega)
  obtain ⟨m1, hm1⟩ : ∃ m1, a * 4294967296 % 18446744073709551616 = m1 := ⟨_, rfl⟩
  obtain ⟨m2, hm2⟩ : ∃ m2, (a * 4294967296 + c1) % 18446744073709551616 = m2 := ⟨_, rfl⟩
  obtain ⟨m3, hm3⟩ : ∃ m3, q1 * Y % 18446744073709551616 = m3 := ⟨_, rfl⟩
  have g1 : IntKind.u64.wrap ((a : Int) * 4294967296) = (m1 : Int) := by rw [IntKind.wrap_u64]; omega
  have g2 : IntKind.u64.wrap ((m1 : Int) + (c1 : Int)) = (m2 : Int) := by rw [IntKind.wrap_u64]; omega
  have g3 : IntKind.u64.wrap ((q1 : Int) * (Y : Int)) = (m3 : Int) := by rw [IntKind.wrap_u64, ← Int.natCast_mul, ← hm3]; rfl
  have g4 : IntKind.u64.wrap ((m2 : Int) - (m3 : Int)) = (b : Int) := sub_wrap hm2.symm hm3.symm D.hb (by omega)
  obtain ⟨m5, hm5⟩ : ∃ m5, b * 4294967296 % 18446744073709551616 = m5 := ⟨_, rfl⟩
  obtain ⟨m6, hm6⟩ : ∃ m6, (b * 4294967296 + c0) % 18446744073709551616 = m6 := ⟨_, rfl⟩
  obtain ⟨m7, hm7⟩ : ∃ m7, q0 * Y % 18446744073709551616 = m7 := ⟨_, rfl⟩
  have g7 : IntKind.u64.wrap ((b : Int) * 4294967296) = (m5 : Int) := by rw [IntKind.wrap_u64]; omega
  have g8 : IntKind.u64.wrap ((m5 : Int) + (c0 : Int)) = (m6 : Int) := by rw [IntKind.wrap_u64]; omega
  have g9 : IntKind.u64.wrap ((q0 : Int) * (Y : Int)) = (m7 : Int) := by rw [IntKind.wrap_u64, ← Int.natCast_mul, ← hm7]; rfl
  have g10 : IntKind.u64.wrap ((m6 : Int) - (m7 : Int)) = (d : Int) := sub_wrap hm6.symm hm7.symm D.hd (by omega)
  have g11 : (d : Int) / 2 ^ z = (v : Int) := by rw [← hv, ← D.rem, Int.natCast_ediv, Int.natCast_pow]; rfl
  have g5 : IntKind.u64.wrap ((q1 : Int) * 4294967296) = (q1 : Int) * 4294967296 := IntWalk.u64_in _ (by omega)
  have g6 : IntKind.u64.wrap ((q1 : Int) * 4294967296 + (q0 : Int)) = (u : Int) := by
    rw [show (q1 : Int) * 4294967296 + (q0 : Int) = (u : Int) by rw [← hu, ← D.quo]; omega]
    exact IntWalk.u64_in _ (by have := D.quo; omega)
  obtain ⟨x1, hx1⟩ : ∃ x1, b / y1 = x1 := ⟨_, rfl⟩
  obtain ⟨p1, hp1⟩ : ∃ p1, b % y1 = p1 := ⟨_, rfl⟩
  have T1 := Trial.start D.Q0
  rw [hx1, hp1] at T1
  have hx1l := T1.le
  have hp1l : p1 < y1 := by rw [← hp1]; exact Nat.mod_lt _ (by omega)
  obtain ⟨m4, hm4⟩ : ∃ m4, x1 * y1 = m4 := ⟨_, rfl⟩
  have hm4b : m4 + p1 = b := by rw [← hm4]; exact T1.eq
  have r1 : (b : Int) / (y1 : Int) = (x1 : Int) := by rw [← hx1]; rfl
  have r2 : IntKind.u64.wrap (x1 : Int) = (x1 : Int) := IntWalk.u64_in _ (by omega)
  have r3 : IntKind.u64.wrap ((x1 : Int) * (y1 : Int)) = (m4 : Int) := by rw [show (x1 : Int) * (y1 : Int) = (m4 : Int) by rw [← hm4, Int.natCast_mul]]; exact IntWalk.u64_in _ (by omega)
  have r4 : IntKind.u64.wrap ((b : Int) - (m4 : Int)) = (p1 : Int) := by rw [show (b : Int) - (m4 : Int) = (p1 : Int) by omega]; exact IntWalk.u64_in _ (by omega)
  clear hm1 hm2 hm3 hm5 hm6 hm7 hx1 hp1 hm4
  have HT1 := Lib.hid T1
  have HT0 := Lib.hid T0
  have HD := Lib.hid D
  have HUV := Lib.hid (And.intro hu hv)
  have hne : ¬ (y : Int) = 0 := by omega
  have hy9 : ¬ (y : Int) ≤ (hi : Int) := by omega
  have hh0 : ¬ (hi : Int) = 0 := by omega
  clear hz hb hx0 hp0 hm0 T0 T1 D hu hv
  go_enter Tryd.func45, Tryd.ntmps45
  go_wp2_with fail
  refine (HZ.out _).mono ?_
  rintro _ w' ⟨rfl, rfl⟩
  go_wp2_with fail
  go_loop [15, 16] (fun vx vp => ∃ x p : Nat, vx = .int .u64 (x : Int) ∧ vp = .int .u64 (p : Int) ∧ p < 4294967296 ∧ Trial 4294967296 a c1 y1 y0 q1 x p) (fun vx _ => (intOf vx).toNat)
  case atStart => exact ⟨x0, p0, rfl, rfl, by omega, HT0.out⟩
  case round =>
    obtain ⟨x, p, rfl, rfl, hp, hT⟩ := hrel
    have HT := Lib.hid hT
    have hxl := hT.le
    clear hT
    obtain ⟨n0, hn0⟩ : ∃ n0, x * y0 = n0 := ⟨_, rfl⟩
    have HN0 := Lib.hid hn0
    by_cases hbig : 4294967296 ≤ x ∨ 4294967296 * p + c1 < n0
    · have hov := HT.out.over HD.out.Q1 (by rw [HN0.out]; exact hbig)
      have hnx := HT.out.next HD.out.Q1 (by rw [HN0.out]; exact hbig)
      have HNx := Lib.hid hnx
      have k1 : IntKind.u64.wrap ((x : Int) - 1) = ((x - 1 : Nat) : Int) := by rw [show (x : Int) - 1 = ((x - 1 : Nat) : Int) by omega]; exact IntWalk.u64_in _ (by omega)
      have k2 : IntKind.u64.wrap ((p : Int) + (y1 : Int)) = ((p + y1 : Nat) : Int) := by rw [show (p : Int) + (y1 : Int) = ((p + y1 : Nat) : Int) by omega]; exact IntWalk.u64_in _ (by omega)
      obtain ⟨x9, hx9⟩ : ∃ x9, x - 1 = x9 := ⟨_, rfl⟩
      obtain ⟨p9, hp9⟩ : ∃ p9, p + y1 = p9 := ⟨_, rfl⟩
      rw [hx9] at k1
      rw [hp9] at k2
      rw [hx9, hp9] at hnx
      have hx9l : x9 < x := by omega
      have hx9b : x9 ≤ 4294967296 := by omega
      have HNy := Lib.hid hnx
      clear hnx HNx hx9 hp9 hn0
      by_cases hX : 4294967296 ≤ x
      · have hXi : (4294967296 : Int) ≤ (x : Int) := by omega
        by_cases hbr : 4294967296 ≤ p9
        · have hbri : (4294967296 : Int) ≤ (p9 : Int) := by omega
          have hxq := HNy.out.broke HD.out.Q1 hx9b hbr
          subst hxq
          clear hbig hov
          go_wp2_with fail
          go_loop [18, 16] (fun vx vp => ∃ x p : Nat, vx = .int .u64 (x : Int) ∧ vp = .int .u64 (p : Int) ∧ p < 4294967296 ∧ Trial 4294967296 b c0 y1 y0 q0 x p) (fun vx _ => (intOf vx).toNat)
          case atStart => exact ⟨x1, p1, rfl, rfl, by omega, HT1.out⟩
          case round =>
            obtain ⟨x, p, rfl, rfl, hp, hT⟩ := hrel
            have HT := Lib.hid hT
            have hxl := hT.le
            clear hT
            obtain ⟨n0, hn0⟩ : ∃ n0, x * y0 = n0 := ⟨_, rfl⟩
            have HN0 := Lib.hid hn0
            by_cases hbig : 4294967296 ≤ x ∨ 4294967296 * p + c0 < n0
            · have hov := HT.out.over HD.out.Q0 (by rw [HN0.out]; exact hbig)
              have hnx := HT.out.next HD.out.Q0 (by rw [HN0.out]; exact hbig)
              have HNx := Lib.hid hnx
              have k1 : IntKind.u64.wrap ((x : Int) - 1) = ((x - 1 : Nat) : Int) := by rw [show (x : Int) - 1 = ((x - 1 : Nat) : Int) by omega]; exact IntWalk.u64_in _ (by omega)
              have k2 : IntKind.u64.wrap ((p : Int) + (y1 : Int)) = ((p + y1 : Nat) : Int) := by rw [show (p : Int) + (y1 : Int) = ((p + y1 : Nat) : Int) by omega]; exact IntWalk.u64_in _ (by omega)
              obtain ⟨x9, hx9⟩ : ∃ x9, x - 1 = x9 := ⟨_, rfl⟩
              obtain ⟨p9, hp9⟩ : ∃ p9, p + y1 = p9 := ⟨_, rfl⟩
              rw [hx9] at k1
              rw [hp9] at k2
              rw [hx9, hp9] at hnx
              have hx9l : x9 < x := by omega
              have hx9b : x9 ≤ 4294967296 := by omega
              have HNy := Lib.hid hnx
              clear hnx HNx hx9 hp9 hn0
              by_cases hX : 4294967296 ≤ x
              · have hXi : (4294967296 : Int) ≤ (x : Int) := by omega
                by_cases hbr : 4294967296 ≤ p9
                · have hbri : (4294967296 : Int) ≤ (p9 : Int) := by omega
                  have hxq := HNy.out.broke HD.out.Q0 hx9b hbr
                  subst hxq
                  clear hbig hov
                  go_wp2_with fail
                  go_returns
                  exact ⟨rfl, by (repeat' (first | (with_reducible exact Below.refl _ _) | (with_reducible assumption) | (with_reducible refine balloc ?_ _) | (with_reducible refine Below.drew ?_) | (with_reducible refine bset ?_ ?_ _) | (with_reducible refine bstep ?_ (by with_reducible assumption)) | (with_reducible refine bturn ?_ (by with_reducible assumption) ?_) | go_size))⟩
                · have hbri : ¬ (4294967296 : Int) ≤ (p9 : Int) := by omega
                  clear hbig hov
                  go_wp2_with fail
                  go_round
                  case rel => exact ⟨x9, p9, rfl, rfl, by omega, HNy.out⟩
                  case measure => simp [intOf]; omega
              · have hXi : ¬ (4294967296 : Int) ≤ (x : Int) := by omega
                have hlt : 4294967296 * p + c0 < n0 := by omega
                have hn0b : n0 ≤ 18446744065119617025 := by rw [← HN0.out]; exact Nat.mul_le_mul (show x ≤ 4294967295 by omega) (show y0 ≤ 4294967295 by omega)
                have k3 : IntKind.u64.wrap ((x : Int) * (y0 : Int)) = (n0 : Int) := by rw [show (x : Int) * (y0 : Int) = (n0 : Int) by rw [← HN0.out, Int.natCast_mul]]; exact IntWalk.u64_in _ (by omega)
                have k4 : IntKind.u64.wrap (4294967296 * (p : Int)) = 4294967296 * (p : Int) := IntWalk.u64_in _ (by omega)
                have k5 : IntKind.u64.wrap (4294967296 * (p : Int) + (c0 : Int)) = 4294967296 * (p : Int) + (c0 : Int) := IntWalk.u64_in _ (by omega)
                have k6 : 4294967296 * (p : Int) + (c0 : Int) < (n0 : Int) := by omega
                by_cases hbr : 4294967296 ≤ p9
                · have hbri : (4294967296 : Int) ≤ (p9 : Int) := by omega
                  have hxq := HNy.out.broke HD.out.Q0 hx9b hbr
                  subst hxq
                  clear hbig hov hlt
                  go_wp2_with fail
                  go_returns
                  exact ⟨rfl, by (repeat' (first | (with_reducible exact Below.refl _ _) | (with_reducible assumption) | (with_reducible refine balloc ?_ _) | (with_reducible refine Below.drew ?_) | (with_reducible refine bset ?_ ?_ _) | (with_reducible refine bstep ?_ (by with_reducible assumption)) | (with_reducible refine bturn ?_ (by with_reducible assumption) ?_) | go_size))⟩
                · have hbri : ¬ (4294967296 : Int) ≤ (p9 : Int) := by omega
                  clear hbig hov hlt
                  go_wp2_with fail
                  go_round
                  case rel => exact ⟨x9, p9, rfl, rfl, by omega, HNy.out⟩
                  case measure => simp [intOf]; omega
            · have hxq := HT.out.done HD.out.Q0 (by rw [HN0.out]; exact hbig)
              have hXi : ¬ (4294967296 : Int) ≤ (x : Int) := by omega
              have hn0b : n0 ≤ 4294967296 * p + c0 := by omega
              have k3 : IntKind.u64.wrap ((x : Int) * (y0 : Int)) = (n0 : Int) := by rw [show (x : Int) * (y0 : Int) = (n0 : Int) by rw [← HN0.out, Int.natCast_mul]]; exact IntWalk.u64_in _ (by omega)
              have k4 : IntKind.u64.wrap (4294967296 * (p : Int)) = 4294967296 * (p : Int) := IntWalk.u64_in _ (by omega)
              have k5 : IntKind.u64.wrap (4294967296 * (p : Int) + (c0 : Int)) = 4294967296 * (p : Int) + (c0 : Int) := IntWalk.u64_in _ (by omega)
              have k6 : ¬ 4294967296 * (p : Int) + (c0 : Int) < (n0 : Int) := by omega
              clear hbig hn0
              subst hxq
              go_wp2_with fail
              go_returns
              exact ⟨rfl, by (repeat' (first | (with_reducible exact Below.refl _ _) | (with_reducible assumption) | (with_reducible refine balloc ?_ _) | (with_reducible refine Below.drew ?_) | (with_reducible refine bset ?_ ?_ _) | (with_reducible refine bstep ?_ (by with_reducible assumption)) | (with_reducible refine bturn ?_ (by with_reducible assumption) ?_) | go_size))⟩
        · have hbri : ¬ (4294967296 : Int) ≤ (p9 : Int) := by omega
          clear hbig hov
          go_wp2_with fail
          go_round
          case rel => exact ⟨x9, p9, rfl, rfl, by omega, HNy.out⟩
          case measure => simp [intOf]; omega
      · have hXi : ¬ (4294967296 : Int) ≤ (x : Int) := by omega
        have hlt : 4294967296 * p + c1 < n0 := by omega
        have hn0b : n0 ≤ 18446744065119617025 := by rw [← HN0.out]; exact Nat.mul_le_mul (show x ≤ 4294967295 by omega) (show y0 ≤ 4294967295 by omega)
        have k3 : IntKind.u64.wrap ((x : Int) * (y0 : Int)) = (n0 : Int) := by rw [show (x : Int) * (y0 : Int) = (n0 : Int) by rw [← HN0.out, Int.natCast_mul]]; exact IntWalk.u64_in _ (by omega)
        have k4 : IntKind.u64.wrap (4294967296 * (p : Int)) = 4294967296 * (p : Int) := IntWalk.u64_in _ (by omega)
        have k5 : IntKind.u64.wrap (4294967296 * (p : Int) + (c1 : Int)) = 4294967296 * (p : Int) + (c1 : Int) := IntWalk.u64_in _ (by omega)
        have k6 : 4294967296 * (p : Int) + (c1 : Int) < (n0 : Int) := by omega
        by_cases hbr : 4294967296 ≤ p9
        · have hbri : (4294967296 : Int) ≤ (p9 : Int) := by omega
          have hxq := HNy.out.broke HD.out.Q1 hx9b hbr
          subst hxq
          clear hbig hov hlt
          go_wp2_with fail
          go_loop [18, 16] (fun vx vp => ∃ x p : Nat, vx = .int .u64 (x : Int) ∧ vp = .int .u64 (p : Int) ∧ p < 4294967296 ∧ Trial 4294967296 b c0 y1 y0 q0 x p) (fun vx _ => (intOf vx).toNat)
          case atStart => exact ⟨x1, p1, rfl, rfl, by omega, HT1.out⟩
          case round =>
            obtain ⟨x, p, rfl, rfl, hp, hT⟩ := hrel
            have HT := Lib.hid hT
            have hxl := hT.le
            clear hT
            obtain ⟨n0, hn0⟩ : ∃ n0, x * y0 = n0 := ⟨_, rfl⟩
            have HN0 := Lib.hid hn0
            by_cases hbig : 4294967296 ≤ x ∨ 4294967296 * p + c0 < n0
            · have hov := HT.out.over HD.out.Q0 (by rw [HN0.out]; exact hbig)
              have hnx := HT.out.next HD.out.Q0 (by rw [HN0.out]; exact hbig)
              have HNx := Lib.hid hnx
              have k1 : IntKind.u64.wrap ((x : Int) - 1) = ((x - 1 : Nat) : Int) := by rw [show (x : Int) - 1 = ((x - 1 : Nat) : Int) by omega]; exact IntWalk.u64_in _ (by omega)
              have k2 : IntKind.u64.wrap ((p : Int) + (y1 : Int)) = ((p + y1 : Nat) : Int) := by rw [show (p : Int) + (y1 : Int) = ((p + y1 : Nat) : Int) by omega]; exact IntWalk.u64_in _ (by omega)
              obtain ⟨x9, hx9⟩ : ∃ x9, x - 1 = x9 := ⟨_, rfl⟩
              obtain ⟨p9, hp9⟩ : ∃ p9, p + y1 = p9 := ⟨_, rfl⟩
              rw [hx9] at k1
              rw [hp9] at k2
              rw [hx9, hp9] at hnx
              have hx9l : x9 < x := by omega
              have hx9b : x9 ≤ 4294967296 := by omega
              have HNy := Lib.hid hnx
              clear hnx HNx hx9 hp9 hn0
              by_cases hX : 4294967296 ≤ x
              · have hXi : (4294967296 : Int) ≤ (x : Int) := by omega
                by_cases hbr : 4294967296 ≤ p9
                · have hbri : (4294967296 : Int) ≤ (p9 : Int) := by omega
                  have hxq := HNy.out.broke HD.out.Q0 hx9b hbr
                  subst hxq
                  clear hbig hov
                  go_wp2_with fail
                  go_returns
                  exact ⟨rfl, by (repeat' (first | (with_reducible exact Below.refl _ _) | (with_reducible assumption) | (with_reducible refine balloc ?_ _) | (with_reducible refine Below.drew ?_) | (with_reducible refine bset ?_ ?_ _) | (with_reducible refine bstep ?_ (by with_reducible assumption)) | (with_reducible refine bturn ?_ (by with_reducible assumption) ?_) | go_size))⟩
                · have hbri : ¬ (4294967296 : Int) ≤ (p9 : Int) := by omega
                  clear hbig hov
                  go_wp2_with fail
                  go_round
                  case rel => exact ⟨x9, p9, rfl, rfl, by omega, HNy.out⟩
                  case measure => simp [intOf]; omega
              · have hXi : ¬ (4294967296 : Int) ≤ (x : Int) := by omega
                have hlt : 4294967296 * p + c0 < n0 := by omega
                have hn0b : n0 ≤ 18446744065119617025 := by rw [← HN0.out]; exact Nat.mul_le_mul (show x ≤ 4294967295 by omega) (show y0 ≤ 4294967295 by omega)
                have k3 : IntKind.u64.wrap ((x : Int) * (y0 : Int)) = (n0 : Int) := by rw [show (x : Int) * (y0 : Int) = (n0 : Int) by rw [← HN0.out, Int.natCast_mul]]; exact IntWalk.u64_in _ (by omega)
                have k4 : IntKind.u64.wrap (4294967296 * (p : Int)) = 4294967296 * (p : Int) := IntWalk.u64_in _ (by omega)
                have k5 : IntKind.u64.wrap (4294967296 * (p : Int) + (c0 : Int)) = 4294967296 * (p : Int) + (c0 : Int) := IntWalk.u64_in _ (by omega)
                have k6 : 4294967296 * (p : Int) + (c0 : Int) < (n0 : Int) := by omega
                by_cases hbr : 4294967296 ≤ p9
                · have hbri : (4294967296 : Int) ≤ (p9 : Int) := by omega
                  have hxq := HNy.out.broke HD.out.Q0 hx9b hbr
                  subst hxq
                  clear hbig hov hlt
                  go_wp2_with fail
                  go_returns
                  exact ⟨rfl, by (repeat' (first | (with_reducible exact Below.refl _ _) | (with_reducible assumption) | (with_reducible refine balloc ?_ _) | (with_reducible refine Below.drew ?_) | (with_reducible refine bset ?_ ?_ _) | (with_reducible refine bstep ?_ (by with_reducible assumption)) | (with_reducible refine bturn ?_ (by with_reducible assumption) ?_) | go_size))⟩
                · have hbri : ¬ (4294967296 : Int) ≤ (p9 : Int) := by omega
                  clear hbig hov hlt
                  go_wp2_with fail
                  go_round
                  case rel => exact ⟨x9, p9, rfl, rfl, by omega, HNy.out⟩
                  case measure => simp [intOf]; omega
            · have hxq := HT.out.done HD.out.Q0 (by rw [HN0.out]; exact hbig)
              have hXi : ¬ (4294967296 : Int) ≤ (x : Int) := by omega
              have hn0b : n0 ≤ 4294967296 * p + c0 := by omega
              have k3 : IntKind.u64.wrap ((x : Int) * (y0 : Int)) = (n0 : Int) := by rw [show (x : Int) * (y0 : Int) = (n0 : Int) by rw [← HN0.out, Int.natCast_mul]]; exact IntWalk.u64_in _ (by omega)
              have k4 : IntKind.u64.wrap (4294967296 * (p : Int)) = 4294967296 * (p : Int) := IntWalk.u64_in _ (by omega)
              have k5 : IntKind.u64.wrap (4294967296 * (p : Int) + (c0 : Int)) = 4294967296 * (p : Int) + (c0 : Int) := IntWalk.u64_in _ (by omega)
              have k6 : ¬ 4294967296 * (p : Int) + (c0 : Int) < (n0 : Int) := by omega
              clear hbig hn0
              subst hxq
              go_wp2_with fail
              go_returns
              exact ⟨rfl, by (repeat' (first | (with_reducible exact Below.refl _ _) | (with_reducible assumption) | (with_reducible refine balloc ?_ _) | (with_reducible refine Below.drew ?_) | (with_reducible refine bset ?_ ?_ _) | (with_reducible refine bstep ?_ (by with_reducible assumption)) | (with_reducible refine bturn ?_ (by with_reducible assumption) ?_) | go_size))⟩
        · have hbri : ¬ (4294967296 : Int) ≤ (p9 : Int) := by omega
          clear hbig hov hlt
          go_wp2_with fail
          go_round
          case rel => exact ⟨x9, p9, rfl, rfl, by omega, HNy.out⟩
          case measure => simp [intOf]; omega
    · have hxq := HT.out.done HD.out.Q1 (by rw [HN0.out]; exact hbig)
      have hXi : ¬ (4294967296 : Int) ≤ (x : Int) := by omega
      have hn0b : n0 ≤ 4294967296 * p + c1 := by omega
      have k3 : IntKind.u64.wrap ((x : Int) * (y0 : Int)) = (n0 : Int) := by rw [show (x : Int) * (y0 : Int) = (n0 : Int) by rw [← HN0.out, Int.natCast_mul]]; exact IntWalk.u64_in _ (by omega)
      have k4 : IntKind.u64.wrap (4294967296 * (p : Int)) = 4294967296 * (p : Int) := IntWalk.u64_in _ (by omega)
      have k5 : IntKind.u64.wrap (4294967296 * (p : Int) + (c1 : Int)) = 4294967296 * (p : Int) + (c1 : Int) := IntWalk.u64_in _ (by omega)
      have k6 : ¬ 4294967296 * (p : Int) + (c1 : Int) < (n0 : Int) := by omega
      clear hbig hn0
      subst hxq
      go_wp2_with fail
      go_loop [18, 16] (fun vx vp => ∃ x p : Nat, vx = .int .u64 (x : Int) ∧ vp = .int .u64 (p : Int) ∧ p < 4294967296 ∧ Trial 4294967296 b c0 y1 y0 q0 x p) (fun vx _ => (intOf vx).toNat)
      case atStart => exact ⟨x1, p1, rfl, rfl, by omega, HT1.out⟩
      case round =>
        obtain ⟨x, p, rfl, rfl, hp, hT⟩ := hrel
        have HT := Lib.hid hT
        have hxl := hT.le
        clear hT
        obtain ⟨n0, hn0⟩ : ∃ n0, x * y0 = n0 := ⟨_, rfl⟩
        have HN0 := Lib.hid hn0
        by_cases hbig : 4294967296 ≤ x ∨ 4294967296 * p + c0 < n0
        · have hov := HT.out.over HD.out.Q0 (by rw [HN0.out]; exact hbig)
          have hnx := HT.out.next HD.out.Q0 (by rw [HN0.out]; exact hbig)
          have HNx := Lib.hid hnx
          have k1 : IntKind.u64.wrap ((x : Int) - 1) = ((x - 1 : Nat) : Int) := by rw [show (x : Int) - 1 = ((x - 1 : Nat) : Int) by omega]; exact IntWalk.u64_in _ (by omega)
          have k2 : IntKind.u64.wrap ((p : Int) + (y1 : Int)) = ((p + y1 : Nat) : Int) := by rw [show (p : Int) + (y1 : Int) = ((p + y1 : Nat) : Int) by omega]; exact IntWalk.u64_in _ (by omega)
          obtain ⟨x9, hx9⟩ : ∃ x9, x - 1 = x9 := ⟨_, rfl⟩
          obtain ⟨p9, hp9⟩ : ∃ p9, p + y1 = p9 := ⟨_, rfl⟩
          rw [hx9] at k1
          rw [hp9] at k2
          rw [hx9, hp9] at hnx
          have hx9l : x9 < x := by omega
          have hx9b : x9 ≤ 4294967296 := by omega
          have HNy := Lib.hid hnx
          clear hnx HNx hx9 hp9 hn0
          by_cases hX : 4294967296 ≤ x
          · have hXi : (4294967296 : Int) ≤ (x : Int) := by omega
            by_cases hbr : 4294967296 ≤ p9
            · have hbri : (4294967296 : Int) ≤ (p9 : Int) := by omega
              have hxq := HNy.out.broke HD.out.Q0 hx9b hbr
              subst hxq
              clear hbig hov
              go_wp2_with fail
              go_returns
              exact ⟨rfl, by (repeat' (first | (with_reducible exact Below.refl _ _) | (with_reducible assumption) | (with_reducible refine balloc ?_ _) | (with_reducible refine Below.drew ?_) | (with_reducible refine bset ?_ ?_ _) | (with_reducible refine bstep ?_ (by with_reducible assumption)) | (with_reducible refine bturn ?_ (by with_reducible assumption) ?_) | go_size))⟩
            · have hbri : ¬ (4294967296 : Int) ≤ (p9 : Int) := by omega
              clear hbig hov
              go_wp2_with fail
              go_round
              case rel => exact ⟨x9, p9, rfl, rfl, by omega, HNy.out⟩
              case measure => simp [intOf]; omega
          · have hXi : ¬ (4294967296 : Int) ≤ (x : Int) := by omega
            have hlt : 4294967296 * p + c0 < n0 := by omega
            have hn0b : n0 ≤ 18446744065119617025 := by rw [← HN0.out]; exact Nat.mul_le_mul (show x ≤ 4294967295 by omega) (show y0 ≤ 4294967295 by omega)
            have k3 : IntKind.u64.wrap ((x : Int) * (y0 : Int)) = (n0 : Int) := by rw [show (x : Int) * (y0 : Int) = (n0 : Int) by rw [← HN0.out, Int.natCast_mul]]; exact IntWalk.u64_in _ (by omega)
            have k4 : IntKind.u64.wrap (4294967296 * (p : Int)) = 4294967296 * (p : Int) := IntWalk.u64_in _ (by omega)
            have k5 : IntKind.u64.wrap (4294967296 * (p : Int) + (c0 : Int)) = 4294967296 * (p : Int) + (c0 : Int) := IntWalk.u64_in _ (by omega)
            have k6 : 4294967296 * (p : Int) + (c0 : Int) < (n0 : Int) := by omega
            by_cases hbr : 4294967296 ≤ p9
            · have hbri : (4294967296 : Int) ≤ (p9 : Int) := by omega
              have hxq := HNy.out.broke HD.out.Q0 hx9b hbr
              subst hxq
              clear hbig hov hlt
              go_wp2_with fail
              go_returns
              exact ⟨rfl, by (repeat' (first | (with_reducible exact Below.refl _ _) | (with_reducible assumption) | (with_reducible refine balloc ?_ _) | (with_reducible refine Below.drew ?_) | (with_reducible refine bset ?_ ?_ _) | (with_reducible refine bstep ?_ (by with_reducible assumption)) | (with_reducible refine bturn ?_ (by with_reducible assumption) ?_) | go_size))⟩
            · have hbri : ¬ (4294967296 : Int) ≤ (p9 : Int) := by omega
              clear hbig hov hlt
              go_wp2_with fail
              go_round
              case rel => exact ⟨x9, p9, rfl, rfl, by omega, HNy.out⟩
              case measure => simp [intOf]; omega
        · have hxq := HT.out.done HD.out.Q0 (by rw [HN0.out]; exact hbig)
          have hXi : ¬ (4294967296 : Int) ≤ (x : Int) := by omega
          have hn0b : n0 ≤ 4294967296 * p + c0 := by omega
          have k3 : IntKind.u64.wrap ((x : Int) * (y0 : Int)) = (n0 : Int) := by rw [show (x : Int) * (y0 : Int) = (n0 : Int) by rw [← HN0.out, Int.natCast_mul]]; exact IntWalk.u64_in _ (by omega)
          have k4 : IntKind.u64.wrap (4294967296 * (p : Int)) = 4294967296 * (p : Int) := IntWalk.u64_in _ (by omega)
          have k5 : IntKind.u64.wrap (4294967296 * (p : Int) + (c0 : Int)) = 4294967296 * (p : Int) + (c0 : Int) := IntWalk.u64_in _ (by omega)
          have k6 : ¬ 4294967296 * (p : Int) + (c0 : Int) < (n0 : Int) := by omega
          clear hbig hn0
          subst hxq
          go_wp2_with fail
          go_returns
          exact ⟨rfl, by (repeat' (first | (with_reducible exact Below.refl _ _) | (with_reducible assumption) | (with_reducible refine balloc ?_ _) | (with_reducible refine Below.drew ?_) | (with_reducible refine bset ?_ ?_ _) | (with_reducible refine bstep ?_ (by with_reducible assumption)) | (with_reducible refine bturn ?_ (by with_reducible assumption) ?_) | go_size))⟩
end Go.Proofs.YteljkkfnnmikkaaDoor
