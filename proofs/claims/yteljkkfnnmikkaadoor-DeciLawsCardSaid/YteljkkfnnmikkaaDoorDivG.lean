/- The walks of even and Div at every two numbers. -/
import Derived.Test.YteljkkfnnmikkaaDoorDivHi
import Derived.Test.YteljkkfnnmikkaaDoorLawMath
namespace Go.Proofs.YteljkkfnnmikkaaDoor
open Go.RowKit
attribute [local go_sem high] run_dec_eql run_dec_neq

theorem div64_any (hi lo y u v : Nat) (hy : hi < y) (hy64 : y < 18446744073709551616) (hl : lo < 18446744073709551616) (hu : (hi * 18446744073709551616 + lo) / y = u) (hv : (hi * 18446744073709551616 + lo) % y = v) (w : World) :
    Calls Tryd.prog 45 #[.int .u64 (hi : Int), .int .u64 (lo : Int), .int .u64 (y : Int)] w fun e w' => e = .returned (.tuple #[.int .u64 (u : Int), .int .u64 (v : Int)]) ∧ Below w.heap.size w w' := by
  by_cases h0 : hi = 0
  · subst h0
    rw [Nat.zero_mul, Nat.zero_add] at hu hv
    exact div64_low lo y u v hy hy64 hl hu hv w
  · obtain ⟨z, Y, H, e, L, a, t, y1, y0, c1, c0, q1, b, q0, d, hz, hb, D⟩ := d64_ex hy hy64 hl
    exact div64_high D (by omega) hy hy64 hl hz hb u v hu hv w

theorem even_far (hi lo y : Nat) (h : y ≤ hi) (w : World) : Calls Tryd.prog 31 #[.int .u64 (hi : Int), .int .u64 (lo : Int), .int .u64 (y : Int)] w fun e w' => e = .returned (.tuple #[.int .u64 0, .bool false]) ∧ Below w.heap.size w w' := by
  have hi' : (y : Int) ≤ (hi : Int) := by omega
  go_enter Tryd.func31, Tryd.ntmps31
  go_wp2_with fail
  go_returns
  exact ⟨rfl, by (repeat' (first | (with_reducible exact Below.refl _ _) | (with_reducible assumption) | (with_reducible refine balloc ?_ _) | (with_reducible refine Below.drew ?_) | (with_reducible refine bset ?_ ?_ _) | (with_reducible refine bstep ?_ (by with_reducible assumption)) | (with_reducible refine bturn ?_ (by with_reducible assumption) ?_) | go_size))⟩

set_option maxHeartbeats 1000000 in
theorem even_near (hi lo y E : Nat) (hy : hi < y) (hy64 : y < 18446744073709551616) (hl : lo < 18446744073709551616) (hE : evenQ (hi * 18446744073709551616 + lo) y % 18446744073709551616 = E) (w : World) :
    Calls Tryd.prog 31 #[.int .u64 (hi : Int), .int .u64 (lo : Int), .int .u64 (y : Int)] w fun e w' => e = .returned (.tuple #[.int .u64 (E : Int), .bool true]) ∧ Below w.heap.size w w' := by
  obtain ⟨u, hu⟩ : ∃ u, (hi * 18446744073709551616 + lo) / y = u := ⟨_, rfl⟩
  obtain ⟨v, hv⟩ : ∃ v, (hi * 18446744073709551616 + lo) % y = v := ⟨_, rfl⟩
  have hvy : v < y := by rw [← hv]; exact Nat.mod_lt _ (by omega)
  have hu64 : u < 18446744073709551616 := by
    rw [← hu, Nat.div_lt_iff_lt_mul (by omega)]
    have := Nat.mul_le_mul_left 18446744073709551616 (show hi + 1 ≤ y from hy)
    omega
  have HD := Lib.hid (fun w => div64_any hi lo y u v hy hy64 hl hu hv w)
  unfold evenQ at hE
  rw [hu, hv] at hE
  obtain ⟨h, hh⟩ : ∃ h, h = y - v := ⟨_, rfl⟩
  have k1 : IntKind.u64.wrap ((y : Int) - (v : Int)) = (h : Int) := by rw [show (y : Int) - (v : Int) = (h : Int) by omega]; exact IntWalk.u64_in _ (by omega)
  have hfar : ¬ (y : Int) ≤ (hi : Int) := by omega
  by_cases hup : y < 2 * v ∨ 2 * v = y ∧ u % 2 = 1
  · rw [if_pos hup] at hE
    have k2 : IntKind.u64.wrap ((u : Int) + 1) = (E : Int) := by rw [IntKind.wrap_u64]; omega
    by_cases g1 : h < v
    · have g1i : (h : Int) < (v : Int) := by omega
      clear hE hup hu hv hh
      go_enter Tryd.func31, Tryd.ntmps31
      go_wp2_with fail
      refine (HD.out _).mono ?_
      rintro e w1 ⟨rfl, hb⟩
      go_wp2_with fail
      go_returns
      exact ⟨rfl, by (repeat' (first | (with_reducible exact Below.refl _ _) | (with_reducible assumption) | (with_reducible refine balloc ?_ _) | (with_reducible refine Below.drew ?_) | (with_reducible refine bset ?_ ?_ _) | (with_reducible refine bstep ?_ (by with_reducible assumption)) | (with_reducible refine bturn ?_ (by with_reducible assumption) ?_) | go_size))⟩
    · obtain rfl : h = v := by omega
      have g2 : (u : Int) % 2 = 1 := by omega
      clear hE hup hu hv hh g1
      go_enter Tryd.func31, Tryd.ntmps31
      go_wp2_with fail
      refine (HD.out _).mono ?_
      rintro e w1 ⟨rfl, hb⟩
      go_wp2_with fail
      go_returns
      exact ⟨rfl, by (repeat' (first | (with_reducible exact Below.refl _ _) | (with_reducible assumption) | (with_reducible refine balloc ?_ _) | (with_reducible refine Below.drew ?_) | (with_reducible refine bset ?_ ?_ _) | (with_reducible refine bstep ?_ (by with_reducible assumption)) | (with_reducible refine bturn ?_ (by with_reducible assumption) ?_) | go_size))⟩
  · rw [if_neg hup, Nat.add_zero, Nat.mod_eq_of_lt hu64] at hE
    subst hE
    by_cases g2 : h = v
    · subst g2
      have g3 : ¬ (u : Int) % 2 = 1 := by omega
      clear hup hu hv hh
      go_enter Tryd.func31, Tryd.ntmps31
      go_wp2_with fail
      refine (HD.out _).mono ?_
      rintro e w1 ⟨rfl, hb⟩
      go_wp2_with fail
      go_returns
      exact ⟨rfl, by (repeat' (first | (with_reducible exact Below.refl _ _) | (with_reducible assumption) | (with_reducible refine balloc ?_ _) | (with_reducible refine Below.drew ?_) | (with_reducible refine bset ?_ ?_ _) | (with_reducible refine bstep ?_ (by with_reducible assumption)) | (with_reducible refine bturn ?_ (by with_reducible assumption) ?_) | go_size))⟩
    · have g3 : ¬ (h : Int) < (v : Int) := by omega
      have g4 : ¬ (v : Int) = (h : Int) := by omega
      clear hup hu hv hh g2
      go_enter Tryd.func31, Tryd.ntmps31
      go_wp2_with fail
      refine (HD.out _).mono ?_
      rintro e w1 ⟨rfl, hb⟩
      go_wp2_with fail
      go_returns
      exact ⟨rfl, by (repeat' (first | (with_reducible exact Below.refl _ _) | (with_reducible assumption) | (with_reducible refine balloc ?_ _) | (with_reducible refine Below.drew ?_) | (with_reducible refine bset ?_ ?_ _) | (with_reducible refine bstep ?_ (by with_reducible assumption)) | (with_reducible refine bturn ?_ (by with_reducible assumption) ?_) | go_size))⟩
end Go.Proofs.YteljkkfnnmikkaaDoor
