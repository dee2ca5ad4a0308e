/- The walks of the reference's signs: Sign, first, Bad, Good; a text's signs may stand by the one as by the other. -/
import Derived.Test.YtambpkkllgppdaaGreatDoorRLexA
import Derived.Test.YtambpkkllgppdaaGreatDoorRLexM
namespace Go.Proofs.YtambpkkllgppdaaGreatDoor
open Go.RowKit

set_option maxHeartbeats 1000000 in
theorem rsign_any (r : Int) (b : Bool) (hb : mayB r = b) (w : World) : Calls Tryz.prog 132 #[.int .i64 r] w fun e w' => e = .returned (.bool b) ∧ w = w' := by
  subst hb
  by_cases h1 : r = 9
  · subst h1
    go_enter Tryz.func132, Tryz.ntmps132
    go_wp2
    go_ret
    exact ⟨rfl, rfl⟩
  by_cases h2 : r = 10
  · subst h2
    go_enter Tryz.func132, Tryz.ntmps132
    go_wp2
    go_ret
    exact ⟨rfl, rfl⟩
  by_cases h3 : r = 13
  · subst h3
    go_enter Tryz.func132, Tryz.ntmps132
    go_wp2
    go_ret
    exact ⟨rfl, rfl⟩
  have e1 : (r == 9) = false := by simpa using h1
  have e2 : (r == 10) = false := by simpa using h2
  have e3 : (r == 13) = false := by simpa using h3
  have hm : mayB r = (decide (32 ≤ r ∧ r ≤ 55295) || decide (57344 ≤ r ∧ r ≤ 65533) || decide (65536 ≤ r ∧ r ≤ 1114111)) := by
    unfold mayB
    simp [h1, h2, h3, Bool.or_assoc]
  rw [hm]
  by_cases g1 : 32 ≤ r ∧ r ≤ 55295
  · rw [decide_eq_true g1]
    obtain ⟨g1, g2⟩ := g1
    clear hm h1 h2 h3
    go_enter Tryz.func132, Tryz.ntmps132
    go_wp2
    go_ret
    exact ⟨rfl, rfl⟩
  by_cases g2 : 57344 ≤ r ∧ r ≤ 65533
  · rw [decide_eq_false g1, decide_eq_true g2]
    obtain ⟨g2, g3⟩ := g2
    have g4 : ¬ r ≤ 55295 := by omega
    have g5 : 32 ≤ r := by omega
    clear hm h1 h2 h3 g1
    go_enter Tryz.func132, Tryz.ntmps132
    go_wp2
    go_ret
    exact ⟨rfl, rfl⟩
  by_cases g3 : 65536 ≤ r ∧ r ≤ 1114111
  · rw [decide_eq_false g1, decide_eq_false g2, decide_eq_true g3]
    obtain ⟨g6, g7⟩ := g3
    have g4 : ¬ r ≤ 55295 := by omega
    have g5 : 32 ≤ r := by omega
    have g8 : 57344 ≤ r := by omega
    have g9 : ¬ r ≤ 65533 := by omega
    clear hm h1 h2 h3 g1 g2
    go_enter Tryz.func132, Tryz.ntmps132
    go_wp2
    go_ret
    exact ⟨rfl, rfl⟩
  · rw [decide_eq_false g1, decide_eq_false g2, decide_eq_false g3]
    clear hm h1 h2 h3
    by_cases k1 : r < 32
    · have k2 : ¬ 32 ≤ r := by omega
      have k3 : ¬ 57344 ≤ r := by omega
      have k4 : ¬ 65536 ≤ r := by omega
      clear g1 g2 g3
      go_enter Tryz.func132, Tryz.ntmps132
      go_wp2
      go_ret
      exact ⟨rfl, rfl⟩
    · have k2 : 32 ≤ r := by omega
      have k3 : ¬ r ≤ 55295 := by omega
      by_cases k4 : r < 57344
      · have k5 : ¬ 57344 ≤ r := by omega
        have k6 : ¬ 65536 ≤ r := by omega
        clear g1 g2 g3
        go_enter Tryz.func132, Tryz.ntmps132
        go_wp2
        go_ret
        exact ⟨rfl, rfl⟩
      · have k5 : 57344 ≤ r := by omega
        have k6 : ¬ r ≤ 65533 := by omega
        by_cases k7 : r < 65536
        · have k8 : ¬ 65536 ≤ r := by omega
          clear g1 g2 g3
          go_enter Tryz.func132, Tryz.ntmps132
          go_wp2
          go_ret
          exact ⟨rfl, rfl⟩
        · have k8 : 65536 ≤ r := by omega
          have k9 : ¬ r ≤ 1114111 := by omega
          clear g1 g2 g3
          go_enter Tryz.func132, Tryz.ntmps132
          go_wp2
          go_ret
          exact ⟨rfl, rfl⟩


theorem mayB_nat (r : Nat) : mayB (r : Int) = decide (mayP r) := by
  unfold mayB mayP
  exact decide_eq_decide.2 (by omega)

/-- The byte at a place, 0 behind the end. -/
theorem get_in (t : ByteArray) (k : Nat) (h : k < t.size) : t.get! k = t[k]'h := by
  obtain ⟨d⟩ := t
  exact getElem!_pos d k h
theorem get_out (t : ByteArray) (k : Nat) (h : ¬ k < t.size) : t.get! k = default := by
  obtain ⟨d⟩ := t
  exact getElem!_neg d k h
set_option maxHeartbeats 8000000 in
set_option maxRecDepth 100000 in
theorem rfirst_1 (t : ByteArray) (n0 : Nat) (ht : 0 < t.size) (hs : t.size ≤ 4000000) (h0 : (t.get! 0).toNat = n0) (hc : n0 < 128) (R1 R2 : Nat) (hR : firstV t = (R1, R2)) (w : World) :
    Calls Tryz.prog 103 #[.string t] w fun e w' => e = .returned (.tuple #[.int .i64 (R1 : Int), .int .i64 (R2 : Int)]) ∧ w = w' := by
  have hv : (((t[0]'ht).toNat : Nat) : Int) = (n0 : Int) := by rw [← h0, get_in t 0 ht]
  have h256 : n0 < 256 := by rw [← h0]; exact (t.get! 0).toNat_lt
  unfold firstV at hR
  rw [h0] at hR
  rw [if_pos hc] at hR
  have q0 : (n0 : Int) < 128 := by omega
  have qr : n0 < 128 := by omega
  unfold firstL at hR
  by_cases hn : t.size < 1
  · rw [if_pos hn] at hR
    have HR : Hid (R1 = 0 ∧ R2 = 0) := by
      rw [Prod.mk.injEq] at hR
      exact Lib.hid ⟨hR.1.symm, hR.2.symm⟩
    have hni : (t.size : Int) < 1 := by omega
    clear hR hc h0 hn
    go_enter Tryz.func103, Tryz.ntmps103
    go_wp2_with fail
    go_returns
    exact ⟨by rw [HR.out.1, HR.out.2]; rfl, rfl⟩
  rw [if_neg hn] at hR
  have hni : ¬ (t.size : Int) < 1 := by omega
  have HR := Lib.hid hR
  have HS := Lib.hid (fun r b hb W => rsign_any r b hb W)
  clear hR hc h0
  go_enter Tryz.func103, Tryz.ntmps103
  go_wp2_with fail
  go_loop [8, 6] (fun i r => ∃ (k d v : Nat), k + d = 1 ∧ 1 ≤ k ∧ i = .int .i64 (k : Int) ∧ r = .int .i64 (v : Int) ∧ v < 128 * 64 ^ (k - 1) ∧ Hid (firstO 1 0 (contF t d k v) = (R1, R2))) (fun i _ => 1 - (intOf i).toNat)
  case atStart => exact ⟨1, 0, n0, by omega, by omega, rfl, rfl, by simp; omega, HR⟩
  case round =>
    obtain ⟨k, d, v, hkd, hk1, rfl, rfl, hv2, HK⟩ := hrel
    by_cases hlt : k < 1
    · have hlts : k < t.size := by omega
      obtain ⟨d1, rfl⟩ : ∃ d1, d = d1 + 1 := ⟨d - 1, by omega⟩
      have hx := HK.out
      rw [contF] at hx
      obtain ⟨y, hy⟩ : ∃ y, (t.get! k).toNat = y := ⟨_, rfl⟩
      have hyv : (((t[k]'hlts).toNat : Nat) : Int) = (y : Int) := by rw [← hy, get_in t k hlts]
      have hy256 : y < 256 := by rw [← hy]; exact (t.get! k).toNat_lt
      rw [hy] at hx
      clear hy
      have hkl : ((k : Int) < 1) := by omega
      by_cases c1 : y < 128
      · have k1 : (y : Int) < 128 := by omega
        rw [if_pos (.inl c1)] at hx
        have HR2 : Hid (R1 = 0 ∧ R2 = 0) := by
          have hx2 : ((0 : Nat), (0 : Nat)) = (R1, R2) := hx
          rw [Prod.mk.injEq] at hx2
          exact Lib.hid ⟨hx2.1.symm, hx2.2.symm⟩
        clear hx c1
        go_wp2_with fail
        go_returns
        exact ⟨by rw [HR2.out.1, HR2.out.2]; rfl, rfl⟩
      have k1 : ¬ (y : Int) < 128 := by omega
      by_cases c2 : 192 ≤ y
      · have k2 : (192 : Int) ≤ (y : Int) := by omega
        rw [if_pos (.inr c2)] at hx
        have HR2 : Hid (R1 = 0 ∧ R2 = 0) := by
          have hx2 : ((0 : Nat), (0 : Nat)) = (R1, R2) := hx
          rw [Prod.mk.injEq] at hx2
          exact Lib.hid ⟨hx2.1.symm, hx2.2.symm⟩
        clear hx c1 c2
        go_wp2_with fail
        go_returns
        exact ⟨by rw [HR2.out.1, HR2.out.2]; rfl, rfl⟩
      have k2 : ¬ (192 : Int) ≤ (y : Int) := by omega
      rw [if_neg (by omega)] at hx
      obtain ⟨v1, hv1⟩ : ∃ v1, v * 64 + y - 128 = v1 := ⟨_, rfl⟩
      rw [hv1] at hx
      obtain ⟨k1', hk1'⟩ : ∃ k1', k + 1 = k1' := ⟨_, rfl⟩
      rw [hk1'] at hx
      have hp : 64 ^ (k1' - 1) = 64 * 64 ^ (k - 1) := by rw [show k1' - 1 = (k - 1) + 1 by omega, Nat.pow_succ, Nat.mul_comm]
      have hp4 : 64 ^ (k - 1) ≤ 64 ^ 3 := Nat.pow_le_pow_right (by omega) (by omega)
      have hvb : v1 < 128 * 64 ^ (k1' - 1) := by rw [hp]; omega
      have hvl : v < 128 * 64 ^ 3 := by omega
      have w1 : IntKind.i64.wrap ((v : Int) * 64) = (v : Int) * 64 := IntWalk.i64_in _ (by omega)
      have w2 : IntKind.i64.wrap ((v : Int) * 64 + (y : Int)) = (v : Int) * 64 + (y : Int) := IntWalk.i64_in _ (by omega)
      have w3 : IntKind.i64.wrap ((v : Int) * 64 + (y : Int) - 128) = (v1 : Int) := by
        rw [show (v : Int) * 64 + (y : Int) - 128 = (v1 : Int) by omega]; exact IntWalk.i64_in _ (by omega)
      have w4 : (k : Int) + 1 = (k1' : Int) := by omega
      have w5 : IntKind.i64.wrap (k1' : Int) = (k1' : Int) := IntWalk.i64_in _ (by omega)
      have HK2 := Lib.hid hx
      have HF := Lib.hid (show k1' + d1 = 1 ∧ 1 ≤ k1' ∧ v1 < 128 * 64 ^ (k1' - 1) ∧ k < k1' ∧ k1' ≤ 1 from ⟨by omega, by omega, hvb, by omega, by omega⟩)
      clear hx hv1 hk1' hp hp4 hvb hvl c1 c2 hv2 hkd
      go_wp2_with fail
      go_round
      case rel => exact ⟨k1', d1, v1, HF.out.1, HF.out.2.1, by go_num, by go_num, HF.out.2.2.1, HK2⟩
      case measure => have := HF.out; simp [intOf]; omega
    · obtain rfl : k = 1 := by omega
      obtain rfl : d = 0 := by omega
      have hx := HK.out
      change firstO 1 0 (some v) = (R1, R2) at hx
      unfold firstO at hx
      simp only [] at hx
      by_cases c1 : v < 0
      · have k1 : (v : Int) < 0 := by omega
        rw [if_pos (.inl c1), Prod.mk.injEq] at hx
        have HR2 : Hid (R1 = 0 ∧ R2 = 0) := Lib.hid ⟨hx.1.symm, hx.2.symm⟩
        clear hx c1 hv2
        go_wp2_with fail
        go_returns
        exact ⟨by rw [HR2.out.1, HR2.out.2]; rfl, rfl⟩
      have k1 : ¬ (v : Int) < 0 := by omega
      by_cases c2 : mayP v
      · have HM : Hid (mayB (v : Int) = true) := Lib.hid (by rw [mayB_nat, decide_eq_true c2])
        rw [if_neg (by rintro (h | h); · exact c1 h
                       · exact h c2), Prod.mk.injEq] at hx
        have HR2 : Hid (R1 = v ∧ R2 = 1) := Lib.hid ⟨hx.1.symm, hx.2.symm⟩
        clear hx c1 c2 hv2
        go_wp2_with fail
        refine (HS.out _ _ HM.out _).mono ?_
        rintro _ _ ⟨rfl, rfl⟩
        go_wp2_with fail
        go_returns
        exact ⟨by rw [HR2.out.1, HR2.out.2]; rfl, rfl⟩
      · have HM : Hid (mayB (v : Int) = false) := Lib.hid (by rw [mayB_nat, decide_eq_false c2])
        rw [if_pos (.inr c2), Prod.mk.injEq] at hx
        have HR2 : Hid (R1 = 0 ∧ R2 = 0) := Lib.hid ⟨hx.1.symm, hx.2.symm⟩
        clear hx c1 c2 hv2
        go_wp2_with fail
        refine (HS.out _ _ HM.out _).mono ?_
        rintro _ _ ⟨rfl, rfl⟩
        go_wp2_with fail
        go_returns
        exact ⟨by rw [HR2.out.1, HR2.out.2]; rfl, rfl⟩

set_option maxHeartbeats 8000000 in
set_option maxRecDepth 100000 in
theorem rfirst_2 (t : ByteArray) (n0 : Nat) (ht : 0 < t.size) (hs : t.size ≤ 4000000) (h0 : (t.get! 0).toNat = n0) (hc : 192 ≤ n0 ∧ n0 < 224) (R1 R2 : Nat) (hR : firstV t = (R1, R2)) (w : World) :
    Calls Tryz.prog 103 #[.string t] w fun e w' => e = .returned (.tuple #[.int .i64 (R1 : Int), .int .i64 (R2 : Int)]) ∧ w = w' := by
  have hv : (((t[0]'ht).toNat : Nat) : Int) = (n0 : Int) := by rw [← h0, get_in t 0 ht]
  have h256 : n0 < 256 := by rw [← h0]; exact (t.get! 0).toNat_lt
  unfold firstV at hR
  rw [h0] at hR
  rw [if_neg (by omega), if_pos hc] at hR
  have q0 : ¬ (n0 : Int) < 128 := by omega
  have q1 : (192 : Int) ≤ (n0 : Int) := by omega
  have q2 : (n0 : Int) < 224 := by omega
  obtain ⟨r0, hr0⟩ : ∃ r0, n0 - 192 = r0 := ⟨_, rfl⟩
  rw [hr0] at hR
  have qs : (n0 : Int) - 192 = (r0 : Int) := by omega
  have qw : IntKind.i64.wrap (r0 : Int) = (r0 : Int) := IntWalk.i64_in _ (by omega)
  have qr : r0 < 32 := by omega
  unfold firstL at hR
  by_cases hn : t.size < 2
  · rw [if_pos hn] at hR
    have HR : Hid (R1 = 0 ∧ R2 = 0) := by
      rw [Prod.mk.injEq] at hR
      exact Lib.hid ⟨hR.1.symm, hR.2.symm⟩
    have hni : (t.size : Int) < 2 := by omega
    clear hR hc h0 hn
    go_enter Tryz.func103, Tryz.ntmps103
    go_wp2_with fail
    go_returns
    exact ⟨by rw [HR.out.1, HR.out.2]; rfl, rfl⟩
  rw [if_neg hn] at hR
  have hni : ¬ (t.size : Int) < 2 := by omega
  have HR := Lib.hid hR
  have HS := Lib.hid (fun r b hb W => rsign_any r b hb W)
  clear hR hc h0 hr0
  go_enter Tryz.func103, Tryz.ntmps103
  go_wp2_with fail
  go_loop [8, 6] (fun i r => ∃ (k d v : Nat), k + d = 2 ∧ 1 ≤ k ∧ i = .int .i64 (k : Int) ∧ r = .int .i64 (v : Int) ∧ v < 128 * 64 ^ (k - 1) ∧ Hid (firstO 2 128 (contF t d k v) = (R1, R2))) (fun i _ => 2 - (intOf i).toNat)
  case atStart => exact ⟨1, 1, r0, by omega, by omega, rfl, rfl, by simp; omega, HR⟩
  case round =>
    obtain ⟨k, d, v, hkd, hk1, rfl, rfl, hv2, HK⟩ := hrel
    by_cases hlt : k < 2
    · have hlts : k < t.size := by omega
      obtain ⟨d1, rfl⟩ : ∃ d1, d = d1 + 1 := ⟨d - 1, by omega⟩
      have hx := HK.out
      rw [contF] at hx
      obtain ⟨y, hy⟩ : ∃ y, (t.get! k).toNat = y := ⟨_, rfl⟩
      have hyv : (((t[k]'hlts).toNat : Nat) : Int) = (y : Int) := by rw [← hy, get_in t k hlts]
      have hy256 : y < 256 := by rw [← hy]; exact (t.get! k).toNat_lt
      rw [hy] at hx
      clear hy
      have hkl : ((k : Int) < 2) := by omega
      by_cases c1 : y < 128
      · have k1 : (y : Int) < 128 := by omega
        rw [if_pos (.inl c1)] at hx
        have HR2 : Hid (R1 = 0 ∧ R2 = 0) := by
          have hx2 : ((0 : Nat), (0 : Nat)) = (R1, R2) := hx
          rw [Prod.mk.injEq] at hx2
          exact Lib.hid ⟨hx2.1.symm, hx2.2.symm⟩
        clear hx c1
        go_wp2_with fail
        go_returns
        exact ⟨by rw [HR2.out.1, HR2.out.2]; rfl, rfl⟩
      have k1 : ¬ (y : Int) < 128 := by omega
      by_cases c2 : 192 ≤ y
      · have k2 : (192 : Int) ≤ (y : Int) := by omega
        rw [if_pos (.inr c2)] at hx
        have HR2 : Hid (R1 = 0 ∧ R2 = 0) := by
          have hx2 : ((0 : Nat), (0 : Nat)) = (R1, R2) := hx
          rw [Prod.mk.injEq] at hx2
          exact Lib.hid ⟨hx2.1.symm, hx2.2.symm⟩
        clear hx c1 c2
        go_wp2_with fail
        go_returns
        exact ⟨by rw [HR2.out.1, HR2.out.2]; rfl, rfl⟩
      have k2 : ¬ (192 : Int) ≤ (y : Int) := by omega
      rw [if_neg (by omega)] at hx
      obtain ⟨v1, hv1⟩ : ∃ v1, v * 64 + y - 128 = v1 := ⟨_, rfl⟩
      rw [hv1] at hx
      obtain ⟨k1', hk1'⟩ : ∃ k1', k + 1 = k1' := ⟨_, rfl⟩
      rw [hk1'] at hx
      have hp : 64 ^ (k1' - 1) = 64 * 64 ^ (k - 1) := by rw [show k1' - 1 = (k - 1) + 1 by omega, Nat.pow_succ, Nat.mul_comm]
      have hp4 : 64 ^ (k - 1) ≤ 64 ^ 3 := Nat.pow_le_pow_right (by omega) (by omega)
      have hvb : v1 < 128 * 64 ^ (k1' - 1) := by rw [hp]; omega
      have hvl : v < 128 * 64 ^ 3 := by omega
      have w1 : IntKind.i64.wrap ((v : Int) * 64) = (v : Int) * 64 := IntWalk.i64_in _ (by omega)
      have w2 : IntKind.i64.wrap ((v : Int) * 64 + (y : Int)) = (v : Int) * 64 + (y : Int) := IntWalk.i64_in _ (by omega)
      have w3 : IntKind.i64.wrap ((v : Int) * 64 + (y : Int) - 128) = (v1 : Int) := by
        rw [show (v : Int) * 64 + (y : Int) - 128 = (v1 : Int) by omega]; exact IntWalk.i64_in _ (by omega)
      have w4 : (k : Int) + 1 = (k1' : Int) := by omega
      have w5 : IntKind.i64.wrap (k1' : Int) = (k1' : Int) := IntWalk.i64_in _ (by omega)
      have HK2 := Lib.hid hx
      have HF := Lib.hid (show k1' + d1 = 2 ∧ 1 ≤ k1' ∧ v1 < 128 * 64 ^ (k1' - 1) ∧ k < k1' ∧ k1' ≤ 2 from ⟨by omega, by omega, hvb, by omega, by omega⟩)
      clear hx hv1 hk1' hp hp4 hvb hvl c1 c2 hv2 hkd
      go_wp2_with fail
      go_round
      case rel => exact ⟨k1', d1, v1, HF.out.1, HF.out.2.1, by go_num, by go_num, HF.out.2.2.1, HK2⟩
      case measure => have := HF.out; simp [intOf]; omega
    · obtain rfl : k = 2 := by omega
      obtain rfl : d = 0 := by omega
      have hx := HK.out
      change firstO 2 128 (some v) = (R1, R2) at hx
      unfold firstO at hx
      simp only [] at hx
      by_cases c1 : v < 128
      · have k1 : (v : Int) < 128 := by omega
        rw [if_pos (.inl c1), Prod.mk.injEq] at hx
        have HR2 : Hid (R1 = 0 ∧ R2 = 0) := Lib.hid ⟨hx.1.symm, hx.2.symm⟩
        clear hx c1 hv2
        go_wp2_with fail
        go_returns
        exact ⟨by rw [HR2.out.1, HR2.out.2]; rfl, rfl⟩
      have k1 : ¬ (v : Int) < 128 := by omega
      by_cases c2 : mayP v
      · have HM : Hid (mayB (v : Int) = true) := Lib.hid (by rw [mayB_nat, decide_eq_true c2])
        rw [if_neg (by rintro (h | h); · exact c1 h
                       · exact h c2), Prod.mk.injEq] at hx
        have HR2 : Hid (R1 = v ∧ R2 = 2) := Lib.hid ⟨hx.1.symm, hx.2.symm⟩
        clear hx c1 c2 hv2
        go_wp2_with fail
        refine (HS.out _ _ HM.out _).mono ?_
        rintro _ _ ⟨rfl, rfl⟩
        go_wp2_with fail
        go_returns
        exact ⟨by rw [HR2.out.1, HR2.out.2]; rfl, rfl⟩
      · have HM : Hid (mayB (v : Int) = false) := Lib.hid (by rw [mayB_nat, decide_eq_false c2])
        rw [if_pos (.inr c2), Prod.mk.injEq] at hx
        have HR2 : Hid (R1 = 0 ∧ R2 = 0) := Lib.hid ⟨hx.1.symm, hx.2.symm⟩
        clear hx c1 c2 hv2
        go_wp2_with fail
        refine (HS.out _ _ HM.out _).mono ?_
        rintro _ _ ⟨rfl, rfl⟩
        go_wp2_with fail
        go_returns
        exact ⟨by rw [HR2.out.1, HR2.out.2]; rfl, rfl⟩

set_option maxHeartbeats 8000000 in
set_option maxRecDepth 100000 in
theorem rfirst_3 (t : ByteArray) (n0 : Nat) (ht : 0 < t.size) (hs : t.size ≤ 4000000) (h0 : (t.get! 0).toNat = n0) (hc : 224 ≤ n0 ∧ n0 < 240) (R1 R2 : Nat) (hR : firstV t = (R1, R2)) (w : World) :
    Calls Tryz.prog 103 #[.string t] w fun e w' => e = .returned (.tuple #[.int .i64 (R1 : Int), .int .i64 (R2 : Int)]) ∧ w = w' := by
  have hv : (((t[0]'ht).toNat : Nat) : Int) = (n0 : Int) := by rw [← h0, get_in t 0 ht]
  have h256 : n0 < 256 := by rw [← h0]; exact (t.get! 0).toNat_lt
  unfold firstV at hR
  rw [h0] at hR
  rw [if_neg (by omega), if_neg (by omega), if_pos hc] at hR
  have q0 : ¬ (n0 : Int) < 128 := by omega
  have q1 : (192 : Int) ≤ (n0 : Int) := by omega
  have q2 : ¬ (n0 : Int) < 224 := by omega
  have q3 : (224 : Int) ≤ (n0 : Int) := by omega
  have q4 : (n0 : Int) < 240 := by omega
  obtain ⟨r0, hr0⟩ : ∃ r0, n0 - 224 = r0 := ⟨_, rfl⟩
  rw [hr0] at hR
  have qs : (n0 : Int) - 224 = (r0 : Int) := by omega
  have qw : IntKind.i64.wrap (r0 : Int) = (r0 : Int) := IntWalk.i64_in _ (by omega)
  have qr : r0 < 32 := by omega
  unfold firstL at hR
  by_cases hn : t.size < 3
  · rw [if_pos hn] at hR
    have HR : Hid (R1 = 0 ∧ R2 = 0) := by
      rw [Prod.mk.injEq] at hR
      exact Lib.hid ⟨hR.1.symm, hR.2.symm⟩
    have hni : (t.size : Int) < 3 := by omega
    clear hR hc h0 hn
    go_enter Tryz.func103, Tryz.ntmps103
    go_wp2_with fail
    go_returns
    exact ⟨by rw [HR.out.1, HR.out.2]; rfl, rfl⟩
  rw [if_neg hn] at hR
  have hni : ¬ (t.size : Int) < 3 := by omega
  have HR := Lib.hid hR
  have HS := Lib.hid (fun r b hb W => rsign_any r b hb W)
  clear hR hc h0 hr0
  go_enter Tryz.func103, Tryz.ntmps103
  go_wp2_with fail
  go_loop [8, 6] (fun i r => ∃ (k d v : Nat), k + d = 3 ∧ 1 ≤ k ∧ i = .int .i64 (k : Int) ∧ r = .int .i64 (v : Int) ∧ v < 128 * 64 ^ (k - 1) ∧ Hid (firstO 3 2048 (contF t d k v) = (R1, R2))) (fun i _ => 3 - (intOf i).toNat)
  case atStart => exact ⟨1, 2, r0, by omega, by omega, rfl, rfl, by simp; omega, HR⟩
  case round =>
    obtain ⟨k, d, v, hkd, hk1, rfl, rfl, hv2, HK⟩ := hrel
    by_cases hlt : k < 3
    · have hlts : k < t.size := by omega
      obtain ⟨d1, rfl⟩ : ∃ d1, d = d1 + 1 := ⟨d - 1, by omega⟩
      have hx := HK.out
      rw [contF] at hx
      obtain ⟨y, hy⟩ : ∃ y, (t.get! k).toNat = y := ⟨_, rfl⟩
      have hyv : (((t[k]'hlts).toNat : Nat) : Int) = (y : Int) := by rw [← hy, get_in t k hlts]
      have hy256 : y < 256 := by rw [← hy]; exact (t.get! k).toNat_lt
      rw [hy] at hx
      clear hy
      have hkl : ((k : Int) < 3) := by omega
      by_cases c1 : y < 128
      · have k1 : (y : Int) < 128 := by omega
        rw [if_pos (.inl c1)] at hx
        have HR2 : Hid (R1 = 0 ∧ R2 = 0) := by
          have hx2 : ((0 : Nat), (0 : Nat)) = (R1, R2) := hx
          rw [Prod.mk.injEq] at hx2
          exact Lib.hid ⟨hx2.1.symm, hx2.2.symm⟩
        clear hx c1
        go_wp2_with fail
        go_returns
        exact ⟨by rw [HR2.out.1, HR2.out.2]; rfl, rfl⟩
      have k1 : ¬ (y : Int) < 128 := by omega
      by_cases c2 : 192 ≤ y
      · have k2 : (192 : Int) ≤ (y : Int) := by omega
        rw [if_pos (.inr c2)] at hx
        have HR2 : Hid (R1 = 0 ∧ R2 = 0) := by
          have hx2 : ((0 : Nat), (0 : Nat)) = (R1, R2) := hx
          rw [Prod.mk.injEq] at hx2
          exact Lib.hid ⟨hx2.1.symm, hx2.2.symm⟩
        clear hx c1 c2
        go_wp2_with fail
        go_returns
        exact ⟨by rw [HR2.out.1, HR2.out.2]; rfl, rfl⟩
      have k2 : ¬ (192 : Int) ≤ (y : Int) := by omega
      rw [if_neg (by omega)] at hx
      obtain ⟨v1, hv1⟩ : ∃ v1, v * 64 + y - 128 = v1 := ⟨_, rfl⟩
      rw [hv1] at hx
      obtain ⟨k1', hk1'⟩ : ∃ k1', k + 1 = k1' := ⟨_, rfl⟩
      rw [hk1'] at hx
      have hp : 64 ^ (k1' - 1) = 64 * 64 ^ (k - 1) := by rw [show k1' - 1 = (k - 1) + 1 by omega, Nat.pow_succ, Nat.mul_comm]
      have hp4 : 64 ^ (k - 1) ≤ 64 ^ 3 := Nat.pow_le_pow_right (by omega) (by omega)
      have hvb : v1 < 128 * 64 ^ (k1' - 1) := by rw [hp]; omega
      have hvl : v < 128 * 64 ^ 3 := by omega
      have w1 : IntKind.i64.wrap ((v : Int) * 64) = (v : Int) * 64 := IntWalk.i64_in _ (by omega)
      have w2 : IntKind.i64.wrap ((v : Int) * 64 + (y : Int)) = (v : Int) * 64 + (y : Int) := IntWalk.i64_in _ (by omega)
      have w3 : IntKind.i64.wrap ((v : Int) * 64 + (y : Int) - 128) = (v1 : Int) := by
        rw [show (v : Int) * 64 + (y : Int) - 128 = (v1 : Int) by omega]; exact IntWalk.i64_in _ (by omega)
      have w4 : (k : Int) + 1 = (k1' : Int) := by omega
      have w5 : IntKind.i64.wrap (k1' : Int) = (k1' : Int) := IntWalk.i64_in _ (by omega)
      have HK2 := Lib.hid hx
      have HF := Lib.hid (show k1' + d1 = 3 ∧ 1 ≤ k1' ∧ v1 < 128 * 64 ^ (k1' - 1) ∧ k < k1' ∧ k1' ≤ 3 from ⟨by omega, by omega, hvb, by omega, by omega⟩)
      clear hx hv1 hk1' hp hp4 hvb hvl c1 c2 hv2 hkd
      go_wp2_with fail
      go_round
      case rel => exact ⟨k1', d1, v1, HF.out.1, HF.out.2.1, by go_num, by go_num, HF.out.2.2.1, HK2⟩
      case measure => have := HF.out; simp [intOf]; omega
    · obtain rfl : k = 3 := by omega
      obtain rfl : d = 0 := by omega
      have hx := HK.out
      change firstO 3 2048 (some v) = (R1, R2) at hx
      unfold firstO at hx
      simp only [] at hx
      by_cases c1 : v < 2048
      · have k1 : (v : Int) < 2048 := by omega
        rw [if_pos (.inl c1), Prod.mk.injEq] at hx
        have HR2 : Hid (R1 = 0 ∧ R2 = 0) := Lib.hid ⟨hx.1.symm, hx.2.symm⟩
        clear hx c1 hv2
        go_wp2_with fail
        go_returns
        exact ⟨by rw [HR2.out.1, HR2.out.2]; rfl, rfl⟩
      have k1 : ¬ (v : Int) < 2048 := by omega
      by_cases c2 : mayP v
      · have HM : Hid (mayB (v : Int) = true) := Lib.hid (by rw [mayB_nat, decide_eq_true c2])
        rw [if_neg (by rintro (h | h); · exact c1 h
                       · exact h c2), Prod.mk.injEq] at hx
        have HR2 : Hid (R1 = v ∧ R2 = 3) := Lib.hid ⟨hx.1.symm, hx.2.symm⟩
        clear hx c1 c2 hv2
        go_wp2_with fail
        refine (HS.out _ _ HM.out _).mono ?_
        rintro _ _ ⟨rfl, rfl⟩
        go_wp2_with fail
        go_returns
        exact ⟨by rw [HR2.out.1, HR2.out.2]; rfl, rfl⟩
      · have HM : Hid (mayB (v : Int) = false) := Lib.hid (by rw [mayB_nat, decide_eq_false c2])
        rw [if_pos (.inr c2), Prod.mk.injEq] at hx
        have HR2 : Hid (R1 = 0 ∧ R2 = 0) := Lib.hid ⟨hx.1.symm, hx.2.symm⟩
        clear hx c1 c2 hv2
        go_wp2_with fail
        refine (HS.out _ _ HM.out _).mono ?_
        rintro _ _ ⟨rfl, rfl⟩
        go_wp2_with fail
        go_returns
        exact ⟨by rw [HR2.out.1, HR2.out.2]; rfl, rfl⟩

set_option maxHeartbeats 8000000 in
set_option maxRecDepth 100000 in
theorem rfirst_4 (t : ByteArray) (n0 : Nat) (ht : 0 < t.size) (hs : t.size ≤ 4000000) (h0 : (t.get! 0).toNat = n0) (hc : 240 ≤ n0 ∧ n0 < 248) (R1 R2 : Nat) (hR : firstV t = (R1, R2)) (w : World) :
    Calls Tryz.prog 103 #[.string t] w fun e w' => e = .returned (.tuple #[.int .i64 (R1 : Int), .int .i64 (R2 : Int)]) ∧ w = w' := by
  have hv : (((t[0]'ht).toNat : Nat) : Int) = (n0 : Int) := by rw [← h0, get_in t 0 ht]
  have h256 : n0 < 256 := by rw [← h0]; exact (t.get! 0).toNat_lt
  unfold firstV at hR
  rw [h0] at hR
  rw [if_neg (by omega), if_neg (by omega), if_neg (by omega), if_pos hc] at hR
  have q0 : ¬ (n0 : Int) < 128 := by omega
  have q1 : (192 : Int) ≤ (n0 : Int) := by omega
  have q2 : ¬ (n0 : Int) < 224 := by omega
  have q3 : (224 : Int) ≤ (n0 : Int) := by omega
  have q4 : ¬ (n0 : Int) < 240 := by omega
  have q5 : (240 : Int) ≤ (n0 : Int) := by omega
  have q6 : (n0 : Int) < 248 := by omega
  obtain ⟨r0, hr0⟩ : ∃ r0, n0 - 240 = r0 := ⟨_, rfl⟩
  rw [hr0] at hR
  have qs : (n0 : Int) - 240 = (r0 : Int) := by omega
  have qw : IntKind.i64.wrap (r0 : Int) = (r0 : Int) := IntWalk.i64_in _ (by omega)
  have qr : r0 < 32 := by omega
  unfold firstL at hR
  by_cases hn : t.size < 4
  · rw [if_pos hn] at hR
    have HR : Hid (R1 = 0 ∧ R2 = 0) := by
      rw [Prod.mk.injEq] at hR
      exact Lib.hid ⟨hR.1.symm, hR.2.symm⟩
    have hni : (t.size : Int) < 4 := by omega
    clear hR hc h0 hn
    go_enter Tryz.func103, Tryz.ntmps103
    go_wp2_with fail
    go_returns
    exact ⟨by rw [HR.out.1, HR.out.2]; rfl, rfl⟩
  rw [if_neg hn] at hR
  have hni : ¬ (t.size : Int) < 4 := by omega
  have HR := Lib.hid hR
  have HS := Lib.hid (fun r b hb W => rsign_any r b hb W)
  clear hR hc h0 hr0
  go_enter Tryz.func103, Tryz.ntmps103
  go_wp2_with fail
  go_loop [8, 6] (fun i r => ∃ (k d v : Nat), k + d = 4 ∧ 1 ≤ k ∧ i = .int .i64 (k : Int) ∧ r = .int .i64 (v : Int) ∧ v < 128 * 64 ^ (k - 1) ∧ Hid (firstO 4 65536 (contF t d k v) = (R1, R2))) (fun i _ => 4 - (intOf i).toNat)
  case atStart => exact ⟨1, 3, r0, by omega, by omega, rfl, rfl, by simp; omega, HR⟩
  case round =>
    obtain ⟨k, d, v, hkd, hk1, rfl, rfl, hv2, HK⟩ := hrel
    by_cases hlt : k < 4
    · have hlts : k < t.size := by omega
      obtain ⟨d1, rfl⟩ : ∃ d1, d = d1 + 1 := ⟨d - 1, by omega⟩
      have hx := HK.out
      rw [contF] at hx
      obtain ⟨y, hy⟩ : ∃ y, (t.get! k).toNat = y := ⟨_, rfl⟩
      have hyv : (((t[k]'hlts).toNat : Nat) : Int) = (y : Int) := by rw [← hy, get_in t k hlts]
      have hy256 : y < 256 := by rw [← hy]; exact (t.get! k).toNat_lt
      rw [hy] at hx
      clear hy
      have hkl : ((k : Int) < 4) := by omega
      by_cases c1 : y < 128
      · have k1 : (y : Int) < 128 := by omega
        rw [if_pos (.inl c1)] at hx
        have HR2 : Hid (R1 = 0 ∧ R2 = 0) := by
          have hx2 : ((0 : Nat), (0 : Nat)) = (R1, R2) := hx
          rw [Prod.mk.injEq] at hx2
          exact Lib.hid ⟨hx2.1.symm, hx2.2.symm⟩
        clear hx c1
        go_wp2_with fail
        go_returns
        exact ⟨by rw [HR2.out.1, HR2.out.2]; rfl, rfl⟩
      have k1 : ¬ (y : Int) < 128 := by omega
      by_cases c2 : 192 ≤ y
      · have k2 : (192 : Int) ≤ (y : Int) := by omega
        rw [if_pos (.inr c2)] at hx
        have HR2 : Hid (R1 = 0 ∧ R2 = 0) := by
          have hx2 : ((0 : Nat), (0 : Nat)) = (R1, R2) := hx
          rw [Prod.mk.injEq] at hx2
          exact Lib.hid ⟨hx2.1.symm, hx2.2.symm⟩
        clear hx c1 c2
        go_wp2_with fail
        go_returns
        exact ⟨by rw [HR2.out.1, HR2.out.2]; rfl, rfl⟩
      have k2 : ¬ (192 : Int) ≤ (y : Int) := by omega
      rw [if_neg (by omega)] at hx
      obtain ⟨v1, hv1⟩ : ∃ v1, v * 64 + y - 128 = v1 := ⟨_, rfl⟩
      rw [hv1] at hx
      obtain ⟨k1', hk1'⟩ : ∃ k1', k + 1 = k1' := ⟨_, rfl⟩
      rw [hk1'] at hx
      have hp : 64 ^ (k1' - 1) = 64 * 64 ^ (k - 1) := by rw [show k1' - 1 = (k - 1) + 1 by omega, Nat.pow_succ, Nat.mul_comm]
      have hp4 : 64 ^ (k - 1) ≤ 64 ^ 3 := Nat.pow_le_pow_right (by omega) (by omega)
      have hvb : v1 < 128 * 64 ^ (k1' - 1) := by rw [hp]; omega
      have hvl : v < 128 * 64 ^ 3 := by omega
      have w1 : IntKind.i64.wrap ((v : Int) * 64) = (v : Int) * 64 := IntWalk.i64_in _ (by omega)
      have w2 : IntKind.i64.wrap ((v : Int) * 64 + (y : Int)) = (v : Int) * 64 + (y : Int) := IntWalk.i64_in _ (by omega)
      have w3 : IntKind.i64.wrap ((v : Int) * 64 + (y : Int) - 128) = (v1 : Int) := by
        rw [show (v : Int) * 64 + (y : Int) - 128 = (v1 : Int) by omega]; exact IntWalk.i64_in _ (by omega)
      have w4 : (k : Int) + 1 = (k1' : Int) := by omega
      have w5 : IntKind.i64.wrap (k1' : Int) = (k1' : Int) := IntWalk.i64_in _ (by omega)
      have HK2 := Lib.hid hx
      have HF := Lib.hid (show k1' + d1 = 4 ∧ 1 ≤ k1' ∧ v1 < 128 * 64 ^ (k1' - 1) ∧ k < k1' ∧ k1' ≤ 4 from ⟨by omega, by omega, hvb, by omega, by omega⟩)
      clear hx hv1 hk1' hp hp4 hvb hvl c1 c2 hv2 hkd
      go_wp2_with fail
      go_round
      case rel => exact ⟨k1', d1, v1, HF.out.1, HF.out.2.1, by go_num, by go_num, HF.out.2.2.1, HK2⟩
      case measure => have := HF.out; simp [intOf]; omega
    · obtain rfl : k = 4 := by omega
      obtain rfl : d = 0 := by omega
      have hx := HK.out
      change firstO 4 65536 (some v) = (R1, R2) at hx
      unfold firstO at hx
      simp only [] at hx
      by_cases c1 : v < 65536
      · have k1 : (v : Int) < 65536 := by omega
        rw [if_pos (.inl c1), Prod.mk.injEq] at hx
        have HR2 : Hid (R1 = 0 ∧ R2 = 0) := Lib.hid ⟨hx.1.symm, hx.2.symm⟩
        clear hx c1 hv2
        go_wp2_with fail
        go_returns
        exact ⟨by rw [HR2.out.1, HR2.out.2]; rfl, rfl⟩
      have k1 : ¬ (v : Int) < 65536 := by omega
      by_cases c2 : mayP v
      · have HM : Hid (mayB (v : Int) = true) := Lib.hid (by rw [mayB_nat, decide_eq_true c2])
        rw [if_neg (by rintro (h | h); · exact c1 h
                       · exact h c2), Prod.mk.injEq] at hx
        have HR2 : Hid (R1 = v ∧ R2 = 4) := Lib.hid ⟨hx.1.symm, hx.2.symm⟩
        clear hx c1 c2 hv2
        go_wp2_with fail
        refine (HS.out _ _ HM.out _).mono ?_
        rintro _ _ ⟨rfl, rfl⟩
        go_wp2_with fail
        go_returns
        exact ⟨by rw [HR2.out.1, HR2.out.2]; rfl, rfl⟩
      · have HM : Hid (mayB (v : Int) = false) := Lib.hid (by rw [mayB_nat, decide_eq_false c2])
        rw [if_pos (.inr c2), Prod.mk.injEq] at hx
        have HR2 : Hid (R1 = 0 ∧ R2 = 0) := Lib.hid ⟨hx.1.symm, hx.2.symm⟩
        clear hx c1 c2 hv2
        go_wp2_with fail
        refine (HS.out _ _ HM.out _).mono ?_
        rintro _ _ ⟨rfl, rfl⟩
        go_wp2_with fail
        go_returns
        exact ⟨by rw [HR2.out.1, HR2.out.2]; rfl, rfl⟩

set_option maxHeartbeats 8000000 in
set_option maxRecDepth 100000 in
theorem rfirst_5 (t : ByteArray) (n0 : Nat) (ht : 0 < t.size) (hs : t.size ≤ 4000000) (h0 : (t.get! 0).toNat = n0) (hc : 128 ≤ n0 ∧ n0 < 192) (R1 R2 : Nat) (hR : firstV t = (R1, R2)) (w : World) :
    Calls Tryz.prog 103 #[.string t] w fun e w' => e = .returned (.tuple #[.int .i64 (R1 : Int), .int .i64 (R2 : Int)]) ∧ w = w' := by
  have hv : (((t[0]'ht).toNat : Nat) : Int) = (n0 : Int) := by rw [← h0, get_in t 0 ht]
  have h256 : n0 < 256 := by rw [← h0]; exact (t.get! 0).toNat_lt
  unfold firstV at hR
  rw [h0] at hR
  rw [if_neg (by omega), if_neg (by omega), if_neg (by omega), if_neg (by omega)] at hR
  have HR : Hid (R1 = 0 ∧ R2 = 0) := by
    rw [Prod.mk.injEq] at hR
    exact Lib.hid ⟨hR.1.symm, hR.2.symm⟩
  clear hR
  have q0 : ¬ (n0 : Int) < 128 := by omega
  have q1 : ¬ (192 : Int) ≤ (n0 : Int) := by omega
  have q2 : ¬ (224 : Int) ≤ (n0 : Int) := by omega
  have q3 : ¬ (240 : Int) ≤ (n0 : Int) := by omega
  clear hc h0
  go_enter Tryz.func103, Tryz.ntmps103
  go_wp2_with fail
  go_returns
  exact ⟨by rw [HR.out.1, HR.out.2]; rfl, rfl⟩

set_option maxHeartbeats 8000000 in
set_option maxRecDepth 100000 in
theorem rfirst_6 (t : ByteArray) (n0 : Nat) (ht : 0 < t.size) (hs : t.size ≤ 4000000) (h0 : (t.get! 0).toNat = n0) (hc : 248 ≤ n0) (R1 R2 : Nat) (hR : firstV t = (R1, R2)) (w : World) :
    Calls Tryz.prog 103 #[.string t] w fun e w' => e = .returned (.tuple #[.int .i64 (R1 : Int), .int .i64 (R2 : Int)]) ∧ w = w' := by
  have hv : (((t[0]'ht).toNat : Nat) : Int) = (n0 : Int) := by rw [← h0, get_in t 0 ht]
  have h256 : n0 < 256 := by rw [← h0]; exact (t.get! 0).toNat_lt
  unfold firstV at hR
  rw [h0] at hR
  rw [if_neg (by omega), if_neg (by omega), if_neg (by omega), if_neg (by omega)] at hR
  have HR : Hid (R1 = 0 ∧ R2 = 0) := by
    rw [Prod.mk.injEq] at hR
    exact Lib.hid ⟨hR.1.symm, hR.2.symm⟩
  clear hR
  have q0 : ¬ (n0 : Int) < 128 := by omega
  have q1 : (192 : Int) ≤ (n0 : Int) := by omega
  have q2 : ¬ (n0 : Int) < 224 := by omega
  have q3 : (224 : Int) ≤ (n0 : Int) := by omega
  have q4 : ¬ (n0 : Int) < 240 := by omega
  have q5 : (240 : Int) ≤ (n0 : Int) := by omega
  have q6 : ¬ (n0 : Int) < 248 := by omega
  have q7 : (n0 : Int) < 256 := by omega
  clear hc h0
  go_enter Tryz.func103, Tryz.ntmps103
  go_wp2_with fail
  go_returns
  exact ⟨by rw [HR.out.1, HR.out.2]; rfl, rfl⟩

theorem width_le (s : ByteArray) (p : Nat) : (Utf8.decode s p).2 ≤ 4 := by
  rw [Lib.decode_at]
  unfold Lib.decodeN
  repeat' split
  all_goals simp
theorem rfirst_any (t : ByteArray) (ht : 0 < t.size) (hs : t.size ≤ 4000000) (R1 R2 : Nat) (hR : firstV t = (R1, R2)) (w : World) :
    Calls Tryz.prog 103 #[.string t] w fun e w' => e = .returned (.tuple #[.int .i64 (R1 : Int), .int .i64 (R2 : Int)]) ∧ w = w' := by
  obtain ⟨n0, h0⟩ : ∃ n0, (t.get! 0).toNat = n0 := ⟨_, rfl⟩
  by_cases g1 : n0 < 128
  · exact rfirst_1 t n0 ht hs h0 g1 R1 R2 hR w
  by_cases g5 : n0 < 192
  · exact rfirst_5 t n0 ht hs h0 ⟨by omega, g5⟩ R1 R2 hR w
  by_cases g2 : n0 < 224
  · exact rfirst_2 t n0 ht hs h0 ⟨by omega, g2⟩ R1 R2 hR w
  by_cases g3 : n0 < 240
  · exact rfirst_3 t n0 ht hs h0 ⟨by omega, g3⟩ R1 R2 hR w
  by_cases g4 : n0 < 248
  · exact rfirst_4 t n0 ht hs h0 ⟨by omega, g4⟩ R1 R2 hR w
  · exact rfirst_6 t n0 ht hs h0 (by omega) R1 R2 hR w

/-- What the suffix of a text begins with is what the text holds at that place. -/
theorem get_suffix (s : ByteArray) (p i : Nat) : (s.extract p s.size).get! i = s.get! (p + i) := by
  by_cases h : p + i < s.size
  · have h2 : i < (s.extract p s.size).size := by rw [ByteArray.size_extract]; omega
    rw [get_in _ _ h2, get_in _ _ h, ByteArray.getElem_extract]
  · have h2 : ¬ i < (s.extract p s.size).size := by rw [ByteArray.size_extract]; omega
    rw [get_out _ _ h2, get_out _ _ h]
theorem decode_suffix (s : ByteArray) (p : Nat) (hp : p < s.size) : Utf8.decode (s.extract p s.size) 0 = Utf8.decode s p := by
  rw [Lib.decode_at, Lib.decode_at, get_suffix, get_suffix, get_suffix, get_suffix]
  simp only [Nat.add_zero, Nat.zero_add, Nat.sub_zero, ByteArray.size_extract, Nat.min_self]
theorem badAt_eq (s : ByteArray) (p : Nat) (hp : p < s.size) : badAt s p = decide (((Utf8.decode s p).1 = 65533 ∧ (Utf8.decode s p).2 = 1) ∨ ¬ mayP (Utf8.decode s p).1) := by
  have hz : ¬ (s.extract p s.size).size = 0 := by rw [ByteArray.size_extract]; omega
  unfold badAt Lib.decodeGo
  rw [if_neg hz, decode_suffix s p hp, mayB_nat]
  by_cases h1 : (Utf8.decode s p).1 = 65533 <;> by_cases h2 : (Utf8.decode s p).2 = 1 <;> by_cases h3 : mayP (Utf8.decode s p).1 <;> simp [h1, h2, h3]
/-- How the reference's first answers at a place. -/
theorem first_at (s : ByteArray) (p : Nat) (hp : p < s.size) : firstV (s.extract p s.size) = if badAt s p then (0, 0) else Utf8.decode s p := by
  rw [firstV_eq _ (by rw [ByteArray.size_extract]; omega), decode_suffix s p hp, badAt_eq s p hp]
  unfold okD
  by_cases h : ((Utf8.decode s p).1 = 65533 ∧ (Utf8.decode s p).2 = 1) ∨ ¬ mayP (Utf8.decode s p).1
  · rw [if_pos h, if_pos (decide_eq_true h)]
  · rw [if_neg h, if_neg (by simpa using h)]

set_option maxHeartbeats 4000000 in
set_option maxRecDepth 100000 in
theorem rbad_any (s : ByteArray) (hs : s.size ≤ 4000000) (w : World) : Calls Tryz.prog 67 #[.string s] w fun e w' => e = .returned (.int .i64 (badF s s.size 0)) ∧ w = w' := by
  obtain ⟨R, hR⟩ : ∃ R, badF s s.size 0 = R := ⟨_, rfl⟩
  rw [hR]
  have HR := Lib.hid hR
  clear hR
  go_enter Tryz.func67, Tryz.ntmps67
  go_wp2_with fail
  go_loop [3] (fun i => ∃ (pos b : Nat), i = .int .i64 (pos : Int) ∧ Hid (badF s b pos = R) ∧ s.size ≤ pos + b ∧ pos ≤ 8000000) (fun i => s.size - (intOf i).toNat)
  case atStart => exact ⟨0, s.size, rfl, HR, by omega, by omega⟩
  case round =>
    obtain ⟨pos, b, rfl, HF, hle, hpm⟩ := hrel
    by_cases hp : pos < s.size
    · have hwd := width_pos s pos hp
      have hw4 := width_le s pos
      obtain ⟨b', rfl⟩ : ∃ b', b = b' + 1 := ⟨b - 1, by omega⟩
      have hf := HF.out
      rw [badF, if_pos hp] at hf
      have hfa := first_at s pos hp
      obtain ⟨t, ht⟩ : ∃ t, s.extract pos s.size = t := ⟨_, rfl⟩
      have hts : t.size = s.size - pos := by rw [← ht, ByteArray.size_extract, Nat.min_self]
      rw [ht] at hfa
      obtain ⟨r, n, hrn⟩ : ∃ r n, Utf8.decode s pos = (r, n) := ⟨_, _, rfl⟩
      rw [hrn] at hf hfa hwd hw4
      simp only at hf hwd hw4
      cases hb : badAt s pos with
      | true =>
        rw [hb, if_pos rfl] at hf hfa
        have HF1 := Lib.hid (fun W => rfirst_any t (by omega) (by omega) 0 0 hfa W)
        have Hf := Lib.hid hf
        clear hf hfa hb hrn hts
        go_wp2_with fail
        refine (HF1.out _).mono ?_
        rintro _ _ ⟨rfl, rfl⟩
        go_wp2_with fail
        go_ret
        exact ⟨by rw [← Hf.out]; rfl, rfl⟩
      | false =>
        rw [hb, if_neg (by simp)] at hf hfa
        have HF1 := Lib.hid (fun W => rfirst_any t (by omega) (by omega) r n hfa W)
        have Hf := Lib.hid hf
        have hn0 : ((n : Int) == 0) = false := by simp; omega
        obtain ⟨p2, hp2⟩ : ∃ p2, pos + n = p2 := ⟨_, rfl⟩
        rw [hp2] at Hf
        have w4 : (pos : Int) + (n : Int) = (p2 : Int) := by omega
        have w5 : IntKind.i64.wrap (p2 : Int) = (p2 : Int) := IntWalk.i64_in _ (by omega)
        have HP := Lib.hid (show s.size ≤ p2 + b' ∧ p2 ≤ 8000000 ∧ pos < p2 from ⟨by omega, by omega, by omega⟩)
        clear hf hfa hb hrn hts hp2
        go_wp2_with fail
        refine (HF1.out _).mono ?_
        rintro _ _ ⟨rfl, rfl⟩
        go_wp2_with fail
        go_round
        case rel => exact ⟨p2, b', by go_num, Hf, HP.out.1, HP.out.2.1⟩
        case measure => have := HP.out; simp [intOf]; omega
    · have hf := HF.out
      rw [badF_end s b pos hp] at hf
      have Hf := Lib.hid hf
      clear hf
      go_wp2
      go_ret
      exact ⟨by rw [← Hf.out]; rfl, rfl⟩
theorem rgood_any (s : ByteArray) (hs : s.size ≤ 4000000) (b : Bool) (hb : goodS s = b) (w : World) : Calls Tryz.prog 40 #[.string s] w fun e w' => e = .returned (.bool b) ∧ w = w' := by
  have HB := Lib.hid (rbad_any s hs w)
  unfold goodS at hb
  obtain ⟨R, hR⟩ : ∃ R, badF s s.size 0 = R := ⟨_, rfl⟩
  rw [hR] at HB hb
  have Hb := Lib.hid hb
  clear hR hb
  go_enter Tryz.func40, Tryz.ntmps40
  go_wp2_with fail
  refine HB.out.mono ?_
  rintro _ _ ⟨rfl, rfl⟩
  go_wp2
  go_returns
  exact ⟨by rw [← Hb.out]; first | rfl | simp, rfl⟩
end Go.Proofs.YtambpkkllgppdaaGreatDoor
