/- The walks of the reference of package deci: size, Make, Sound. -/
import Derived.Test.YtlmcjnekkhdmiaaDoorDeciC
import Derived.Deep.LoopGhost
set_option linter.unusedVariables false
set_option linter.unusedSimpArgs false
namespace Go.Proofs.YtlmcjnekkhdmiaaDoor
open Go.RowKit

theorem rsize_any (n : Int) (h0 : -9223372036854775807 ≤ n) (h1 : n ≤ 9223372036854775807) (w : World) :
    Calls Tryd.prog 14 #[.int .i64 n] w fun e w' => e = .returned (.int .i64 (mag n)) ∧ w = w' := by
  unfold mag
  by_cases hneg : n < 0
  · rw [if_pos hneg]
    go_enter Tryd.func14, Tryd.ntmps14
    go_wp2
    go_ret
    exact ⟨rfl, rfl⟩
  · rw [if_neg hneg]
    go_enter Tryd.func14, Tryd.ntmps14
    go_wp2
    go_ret
    exact ⟨rfl, rfl⟩

/-- What is left of n over ten to the k, signs and all. -/
theorem neg_div (m : Int) (h : 0 ≤ m) : (-m).tdiv 10 = -(m / 10) := by rw [Int.neg_tdiv, Int.tdiv_eq_ediv_of_nonneg h]
theorem neg_mod (m : Int) (h : 0 ≤ m) : (-m).tmod 10 = -(m % 10) := by rw [Int.neg_tmod, Int.tmod_eq_emod_of_nonneg h]

set_option maxHeartbeats 1000000 in
theorem rmake_any (n s : Int) (hn0 : -9223372036854775808 ≤ n) (hn1 : n ≤ 9223372036854775807) (hs0 : -9223372036854775808 ≤ s) (hs1 : s ≤ 9223372036854775807) (w : World) :
    Calls Tryd.prog 31 #[.int .i64 n, .int .i64 s] w fun e w' => e = .returned (.tuple #[.agg #[.int .i64 (makeS n s).n, .int .i64 (makeS n s).s], .int .i64 (makeS n s).e]) ∧ Below w.heap.size w w' := by
  have hb1 := Blk.new w 23 #[.int .i64 0, .int .i64 0]
  by_cases hbad : s < 0 ∨ 6 < s ∨ 999999999999 < n ∨ n < -999999999999
  · have HM := Lib.hid (make_bad hbad)
    by_cases g1 : s < 0
    · clear hbad
      go_enter Tryd.func31, Tryd.ntmps31
      go_wp2
      refine ret_blk2 rfl hb1 rfl Tryd.underlying23 rfl (by kernel_rfl) rfl ?_
      exact ⟨by rw [HM.out]; rfl, by (repeat' first | (with_reducible first | exact .refl _ _ | assumption | apply balloc | apply Below.drew | apply bset | refine bstep ?_ ‹_› | refine bturn ?_ ‹_› ?_) | go_size)⟩
    by_cases g2 : 6 < s
    · clear hbad
      go_enter Tryd.func31, Tryd.ntmps31
      go_wp2
      refine ret_blk2 rfl hb1 rfl Tryd.underlying23 rfl (by kernel_rfl) rfl ?_
      exact ⟨by rw [HM.out]; rfl, by (repeat' first | (with_reducible first | exact .refl _ _ | assumption | apply balloc | apply Below.drew | apply bset | refine bstep ?_ ‹_› | refine bturn ?_ ‹_› ?_) | go_size)⟩
    by_cases g3 : 999999999999 < n
    · clear hbad
      go_enter Tryd.func31, Tryd.ntmps31
      go_wp2
      refine ret_blk2 rfl hb1 rfl Tryd.underlying23 rfl (by kernel_rfl) rfl ?_
      exact ⟨by rw [HM.out]; rfl, by (repeat' first | (with_reducible first | exact .refl _ _ | assumption | apply balloc | apply Below.drew | apply bset | refine bstep ?_ ‹_› | refine bturn ?_ ‹_› ?_) | go_size)⟩
    have g4 : n < -999999999999 := by omega
    clear hbad
    go_enter Tryd.func31, Tryd.ntmps31
    go_wp2
    refine ret_blk2 rfl hb1 rfl Tryd.underlying23 rfl (by kernel_rfl) rfl ?_
    exact ⟨by rw [HM.out]; rfl, by (repeat' first | (with_reducible first | exact .refl _ _ | assumption | apply balloc | apply Below.drew | apply bset | refine bstep ?_ ‹_› | refine bturn ?_ ‹_› ?_) | go_size)⟩
  · have g : 0 ≤ s ∧ s ≤ 6 ∧ -999999999999 ≤ n ∧ n ≤ 999999999999 := by omega
    have hmg := mag_bd g.2.2.1 g.2.2.2
    have hbd := short_bd s.toNat (mag n) (mag_nn n)
    have HM : makeS n s = ⟨if decide (n < 0) = true then -(short s.toNat (mag n)).1 else (short s.toNat (mag n)).1, (short s.toNat (mag n)).2, 0⟩ := by
      rw [make_ok g]; unfold decS; rw [big_def, if_neg (by omega)]
    replace HM := Lib.hid HM
    obtain ⟨g1, g2, g3, g4⟩ := g
    clear hbad hn0 hn1 hs0 hs1 hbd
    by_cases hneg : n < 0
    · have hm2 : mag n = -n := by unfold mag; rw [if_pos hneg]
      have HM2 := Lib.hid hm2
      clear hm2
      go_enter Tryd.func31, Tryd.ntmps31
      go_wp2
      go_loop [0, 1] (fun v0 v1 => ∃ (m : Int) (k : Nat), v0 = .int .i64 (-m) ∧ v1 = .int .i64 k ∧ 0 ≤ m ∧ m ≤ 999999999999 ∧ k ≤ 6 ∧ short s.toNat (mag n) = short k m) (fun _ v1 => (intOf v1).toNat)
      case atStart => exact ⟨mag n, s.toNat, by rw [HM2.out, Int.neg_neg], by rw [Int.toNat_of_nonneg g1], mag_nn n, hmg, by omega, rfl⟩
      case round =>
        obtain ⟨m, k, rfl, rfl, hm0, hm1, hk, hsh⟩ := hrel
        have HS := Lib.hid hsh
        clear hsh
        have e1 := neg_div m hm0
        have e2 := neg_mod m hm0
        by_cases hz : k = 0
        · subst hz
          go_wp2
          refine ret_blk2 rfl (Blk.new w _ _) rfl Tryd.underlying23 rfl (by kernel_rfl) rfl ?_
          exact ⟨by rw [HM.out, if_pos (by simp; omega), HS.out, short_stop (.inl rfl)]; rfl, by (repeat' first | (with_reducible first | exact .refl _ _ | assumption | apply balloc | apply Below.drew | apply bset | refine bstep ?_ ‹_› | refine bturn ?_ ‹_› ?_) | go_size)⟩
        · by_cases hd : m % 10 = 0
          · have hd' : (-(m % 10) == 0) = true := by simp [hd]
            go_wp2
            go_round
            case rel => exact ⟨m / 10, k - 1, rfl, by rw [show (((k - 1 : Nat) : Int)) = (k : Int) - 1 from by omega], by omega, by omega, by omega, by
              rw [HS.out]
              obtain ⟨j, rfl⟩ : ∃ j, k = j + 1 := ⟨k - 1, by omega⟩
              exact short_go hd⟩
            case measure => simp [intOf]; omega
          · have hd' : (-(m % 10) == 0) = false := by simp; omega
            go_wp2
            refine ret_blk2 rfl (Blk.new w _ _) rfl Tryd.underlying23 rfl (by kernel_rfl) rfl ?_
            exact ⟨by rw [HM.out, if_pos (by simp; omega), HS.out, short_stop (.inr hd)]; rfl, by (repeat' first | (with_reducible first | exact .refl _ _ | assumption | apply balloc | apply Below.drew | apply bset | refine bstep ?_ ‹_› | refine bturn ?_ ‹_› ?_) | go_size)⟩
    · have hm2 : mag n = n := by unfold mag; rw [if_neg hneg]
      have HM2 := Lib.hid hm2
      clear hm2
      go_enter Tryd.func31, Tryd.ntmps31
      go_wp2
      go_loop [0, 1] (fun v0 v1 => ∃ (m : Int) (k : Nat), v0 = .int .i64 m ∧ v1 = .int .i64 k ∧ 0 ≤ m ∧ m ≤ 999999999999 ∧ k ≤ 6 ∧ short s.toNat (mag n) = short k m) (fun _ v1 => (intOf v1).toNat)
      case atStart => exact ⟨mag n, s.toNat, by rw [HM2.out], by rw [Int.toNat_of_nonneg g1], mag_nn n, hmg, by omega, rfl⟩
      case round =>
        obtain ⟨m, k, rfl, rfl, hm0, hm1, hk, hsh⟩ := hrel
        have HS := Lib.hid hsh
        clear hsh
        by_cases hz : k = 0
        · subst hz
          go_wp2
          refine ret_blk2 rfl (Blk.new w _ _) rfl Tryd.underlying23 rfl (by kernel_rfl) rfl ?_
          exact ⟨by rw [HM.out, if_neg (by simp; omega), HS.out, short_stop (.inl rfl)]; rfl, by (repeat' first | (with_reducible first | exact .refl _ _ | assumption | apply balloc | apply Below.drew | apply bset | refine bstep ?_ ‹_› | refine bturn ?_ ‹_› ?_) | go_size)⟩
        · by_cases hd : m % 10 = 0
          · have hd' : (m % 10 == 0) = true := by simp [hd]
            go_wp2
            go_round
            case rel => exact ⟨m / 10, k - 1, rfl, by rw [show (((k - 1 : Nat) : Int)) = (k : Int) - 1 from by omega], by omega, by omega, by omega, by
              rw [HS.out]
              obtain ⟨j, rfl⟩ : ∃ j, k = j + 1 := ⟨k - 1, by omega⟩
              exact short_go hd⟩
            case measure => simp [intOf]; omega
          · have hd' : (m % 10 == 0) = false := by simp; omega
            go_wp2
            refine ret_blk2 rfl (Blk.new w _ _) rfl Tryd.underlying23 rfl (by kernel_rfl) rfl ?_
            exact ⟨by rw [HM.out, if_neg (by simp; omega), HS.out, short_stop (.inr hd)]; rfl, by (repeat' first | (with_reducible first | exact .refl _ _ | assumption | apply balloc | apply Below.drew | apply bset | refine bstep ?_ ‹_› | refine bturn ?_ ‹_› ?_) | go_size)⟩

set_option maxHeartbeats 1000000 in
theorem rsound_any (n s : Int) (hn0 : -9223372036854775808 ≤ n) (hn1 : n ≤ 9223372036854775807) (hs0 : -9223372036854775808 ≤ s) (hs1 : s ≤ 9223372036854775807) (w : World) :
    Calls Tryd.prog 13 #[.agg #[.int .i64 n, .int .i64 s]] w fun e w' => e = .returned (.bool (soundS n s)) ∧ Below w.heap.size w w' := by
  have HS : Hid (soundS n s = ((makeS n s).e == 0 && ((makeS n s).n == n && (makeS n s).s == s))) := rfl
  have hb0 := Blk.new w 23 #[.int .i64 n, .int .i64 s]
  have HMk := Lib.hid (rmake_any n s hn0 hn1 hs0 hs1)
  generalize makeS n s = r at *
  by_cases he : (r.e == 0) = true
  · by_cases h2 : (r.n == n) = true
    · go_enter Tryd.func13, Tryd.ntmps13
      go_wp2_with fail
      refine (HMk.out _).mono ?_
      rintro e w1 ⟨rfl, hb⟩
      replace hb0 := hb0.step hb
      have hla := hb0.lt; have hlla := lts hla; have qa0 := hb0.cell 0; have qa1 := hb0.cell 1; simp at qa0 qa1; have za0 := hb0.frozen 0; have za1 := hb0.frozen 1; have Hhb0 := Lib.hid hb0; clear hb0
      go_wp2
      go_ret
      exact ⟨by rw [HS.out]; simp [he, h2], by (repeat' first | (with_reducible first | exact .refl _ _ | assumption | apply balloc | apply Below.drew | apply bset | refine bstep ?_ ‹_› | refine bturn ?_ ‹_› ?_) | go_size)⟩
    · replace h2 : (r.n == n) = false := by simpa using h2
      go_enter Tryd.func13, Tryd.ntmps13
      go_wp2_with fail
      refine (HMk.out _).mono ?_
      rintro e w1 ⟨rfl, hb⟩
      replace hb0 := hb0.step hb
      have hla := hb0.lt; have hlla := lts hla; have qa0 := hb0.cell 0; have qa1 := hb0.cell 1; simp at qa0 qa1; have za0 := hb0.frozen 0; have za1 := hb0.frozen 1; have Hhb0 := Lib.hid hb0; clear hb0
      go_wp2
      go_ret
      exact ⟨by rw [HS.out]; simp [he, h2], by (repeat' first | (with_reducible first | exact .refl _ _ | assumption | apply balloc | apply Below.drew | apply bset | refine bstep ?_ ‹_› | refine bturn ?_ ‹_› ?_) | go_size)⟩
  · replace he : (r.e == 0) = false := by simpa using he
    go_enter Tryd.func13, Tryd.ntmps13
    go_wp2_with fail
    refine (HMk.out _).mono ?_
    rintro e w1 ⟨rfl, hb⟩
    replace hb0 := hb0.step hb
    have hla := hb0.lt; have hlla := lts hla; have qa0 := hb0.cell 0; have qa1 := hb0.cell 1; simp at qa0 qa1; have za0 := hb0.frozen 0; have za1 := hb0.frozen 1; have Hhb0 := Lib.hid hb0; clear hb0
    go_wp2
    go_ret
    exact ⟨by rw [HS.out]; simp [he], by (repeat' first | (with_reducible first | exact .refl _ _ | assumption | apply balloc | apply Below.drew | apply bset | refine bstep ?_ ‹_› | refine bturn ?_ ‹_› ?_) | go_size)⟩
end Go.Proofs.YtlmcjnekkhdmiaaDoor
