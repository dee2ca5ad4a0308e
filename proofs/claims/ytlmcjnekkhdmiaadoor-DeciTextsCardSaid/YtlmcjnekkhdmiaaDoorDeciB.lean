/- The walks of package deci: Make, Sound, all, units, Neg, size. -/
import Derived.Test.YtlmcjnekkhdmiaaDoorDeciA
set_option linter.unusedVariables false
set_option linter.unusedSimpArgs false
namespace Go.Proofs.YtlmcjnekkhdmiaaDoor
open Go.RowKit

theorem make_bad {n s : Int} (h : s < 0 ∨ 6 < s ∨ 999999999999 < n ∨ n < -999999999999) : makeS n s = ⟨0, 0, 3⟩ := by unfold makeS; rw [big_def, if_pos h]
theorem make_ok {n s : Int} (h : 0 ≤ s ∧ s ≤ 6 ∧ -999999999999 ≤ n ∧ n ≤ 999999999999) : makeS n s = decS s.toNat (mag n) (decide (n < 0)) := by unfold makeS; rw [big_def, if_neg (by omega)]

set_option maxHeartbeats 1000000 in
theorem make_any (n s : Int) (hn0 : -9223372036854775808 ≤ n) (hn1 : n ≤ 9223372036854775807) (hs0 : -9223372036854775808 ≤ s) (hs1 : s ≤ 9223372036854775807) (w : World) :
    Calls Tryd.prog 46 #[.int .i64 n, .int .i64 s] w fun e w' => e = .returned (.tuple #[.agg #[.int .i64 (makeS n s).n, .int .i64 (makeS n s).s], .int .i64 (makeS n s).e]) ∧ Below w.heap.size w w' := by
  have hb1 := Blk.new w 23 #[.int .i64 0, .int .i64 0]
  by_cases hbad : s < 0 ∨ 6 < s ∨ 999999999999 < n ∨ n < -999999999999
  · have HM := Lib.hid (make_bad hbad)
    by_cases g1 : s < 0
    · clear hbad
      go_enter Tryd.func46, Tryd.ntmps46
      go_wp2
      refine ret_blk2 rfl hb1 rfl Tryd.underlying23 rfl (by kernel_rfl) rfl ?_
      exact ⟨by rw [HM.out]; rfl, by (repeat' first | (with_reducible first | exact .refl _ _ | assumption | apply balloc | apply Below.drew | apply bset | refine bstep ?_ ‹_› | refine bturn ?_ ‹_› ?_) | go_size)⟩
    by_cases g2 : 6 < s
    · clear hbad
      go_enter Tryd.func46, Tryd.ntmps46
      go_wp2
      refine ret_blk2 rfl hb1 rfl Tryd.underlying23 rfl (by kernel_rfl) rfl ?_
      exact ⟨by rw [HM.out]; rfl, by (repeat' first | (with_reducible first | exact .refl _ _ | assumption | apply balloc | apply Below.drew | apply bset | refine bstep ?_ ‹_› | refine bturn ?_ ‹_› ?_) | go_size)⟩
    by_cases g3 : 999999999999 < n
    · clear hbad
      go_enter Tryd.func46, Tryd.ntmps46
      go_wp2
      refine ret_blk2 rfl hb1 rfl Tryd.underlying23 rfl (by kernel_rfl) rfl ?_
      exact ⟨by rw [HM.out]; rfl, by (repeat' first | (with_reducible first | exact .refl _ _ | assumption | apply balloc | apply Below.drew | apply bset | refine bstep ?_ ‹_› | refine bturn ?_ ‹_› ?_) | go_size)⟩
    have g4 : n < -999999999999 := by omega
    clear hbad
    go_enter Tryd.func46, Tryd.ntmps46
    go_wp2
    refine ret_blk2 rfl hb1 rfl Tryd.underlying23 rfl (by kernel_rfl) rfl ?_
    exact ⟨by rw [HM.out]; rfl, by (repeat' first | (with_reducible first | exact .refl _ _ | assumption | apply balloc | apply Below.drew | apply bset | refine bstep ?_ ‹_› | refine bturn ?_ ‹_› ?_) | go_size)⟩
  · have g : 0 ≤ s ∧ s ≤ 6 ∧ -999999999999 ≤ n ∧ n ≤ 999999999999 := by omega
    have HM := Lib.hid (make_ok g)
    obtain ⟨g1, g2, g3, g4⟩ := g
    clear hbad hn0 hn1 hs0 hs1
    by_cases hneg : n < 0
    · have HM2 : mag n = -n := by unfold mag; rw [if_pos hneg]
      replace HM2 := Lib.hid HM2
      have HD : decide (n < 0) = true := by simpa using hneg
      replace HD := Lib.hid HD
      go_enter Tryd.func46, Tryd.ntmps46
      go_wp2_with fail
      refine (dec_any (-n) s true (by omega) (by omega) (by omega) (by omega) _).mono ?_
      rintro e w1 ⟨rfl, hb⟩
      replace hb1 := hb1.step hb
      go_wp2_with (refine wpList_store_blk hb1 rfl _ _ _ (by rfl) _ (by rfl) (by rfl) (by repeat first | with_reducible first | exact hb1 | apply Blk.alloc | apply Blk.drew | refine Blk.far ?_ (by simp <;> omega) _ | refine Blk.turn ?_ ‹_› (by omega)) (by rfl) (by kernel_rfl) (by simp [Value.oneCell']) ?_; intro wt hb1n ht)
      refine ret_blk2 rfl hb1n rfl Tryd.underlying23 rfl (by kernel_rfl) rfl ?_
      exact ⟨by rw [HM.out, HM2.out, HD.out]; rfl, by (repeat' first | (with_reducible first | exact .refl _ _ | assumption | apply balloc | apply Below.drew | apply bset | refine bstep ?_ ‹_› | refine bturn ?_ ‹_› ?_) | go_size)⟩
    · have HM2 : mag n = n := by unfold mag; rw [if_neg hneg]
      replace HM2 := Lib.hid HM2
      have HD : decide (n < 0) = false := by simpa using hneg
      replace HD := Lib.hid HD
      go_enter Tryd.func46, Tryd.ntmps46
      go_wp2_with fail
      refine (dec_any n s false (by omega) (by omega) (by omega) (by omega) _).mono ?_
      rintro e w1 ⟨rfl, hb⟩
      replace hb1 := hb1.step hb
      go_wp2_with (refine wpList_store_blk hb1 rfl _ _ _ (by rfl) _ (by rfl) (by rfl) (by repeat first | with_reducible first | exact hb1 | apply Blk.alloc | apply Blk.drew | refine Blk.far ?_ (by simp <;> omega) _ | refine Blk.turn ?_ ‹_› (by omega)) (by rfl) (by kernel_rfl) (by simp [Value.oneCell']) ?_; intro wt hb1n ht)
      refine ret_blk2 rfl hb1n rfl Tryd.underlying23 rfl (by kernel_rfl) rfl ?_
      exact ⟨by rw [HM.out, HM2.out, HD.out]; rfl, by (repeat' first | (with_reducible first | exact .refl _ _ | assumption | apply balloc | apply Below.drew | apply bset | refine bstep ?_ ‹_› | refine bturn ?_ ‹_› ?_) | go_size)⟩

theorem run_dec_eql (w : World) (a b a' b' : Int) :
    (binOp .eql 23 (.agg #[.int .i64 a, .int .i64 b]) (.agg #[.int .i64 a', .int .i64 b'])).run Tryd.prog w = .ok (.bool (a == a' && b == b')) w := by
  go_simp
  by_cases h1 : a = a' <;> by_cases h2 : b = b' <;> simp [h1, h2]
theorem run_dec_neq (w : World) (a b a' b' : Int) :
    (binOp .neq 23 (.agg #[.int .i64 a, .int .i64 b]) (.agg #[.int .i64 a', .int .i64 b'])).run Tryd.prog w = .ok (.bool !(a == a' && b == b')) w := by
  go_simp
  by_cases h1 : a = a' <;> by_cases h2 : b = b' <;> simp [h1, h2]
attribute [local go_sem high] run_dec_eql run_dec_neq

def soundS (n s : Int) : Bool := (makeS n s).e == 0 && ((makeS n s).n == n && (makeS n s).s == s)

set_option maxHeartbeats 1000000 in
theorem sound_any (n s : Int) (hn0 : -9223372036854775808 ≤ n) (hn1 : n ≤ 9223372036854775807) (hs0 : -9223372036854775808 ≤ s) (hs1 : s ≤ 9223372036854775807) (w : World) :
    Calls Tryd.prog 23 #[.agg #[.int .i64 n, .int .i64 s]] w fun e w' => e = .returned (.bool (soundS n s)) ∧ Below w.heap.size w w' := by
  have HS : Hid (soundS n s = ((makeS n s).e == 0 && ((makeS n s).n == n && (makeS n s).s == s))) := rfl
  have hb0 := Blk.new w 23 #[.int .i64 n, .int .i64 s]
  have HMk := Lib.hid (make_any n s hn0 hn1 hs0 hs1)
  generalize makeS n s = r at *
  by_cases he : (r.e == 0) = true
  · go_enter Tryd.func23, Tryd.ntmps23
    go_wp2_with fail
    refine (HMk.out _).mono ?_
    rintro e w1 ⟨rfl, hb⟩
    replace hb0 := hb0.step hb
    have hla := hb0.lt; have hlla := lts hla; have qa0 := hb0.cell 0; have qa1 := hb0.cell 1; simp at qa0 qa1; have za0 := hb0.frozen 0; have za1 := hb0.frozen 1; have Hhb0 := Lib.hid hb0; clear hb0
    go_wp2
    go_ret
    exact ⟨by rw [HS.out]; simp [he], by (repeat' first | (with_reducible first | exact .refl _ _ | assumption | apply balloc | apply Below.drew | apply bset | refine bstep ?_ ‹_› | refine bturn ?_ ‹_› ?_) | go_size)⟩
  · replace he : (r.e == 0) = false := by simpa using he
    go_enter Tryd.func23, Tryd.ntmps23
    go_wp2_with fail
    refine (HMk.out _).mono ?_
    rintro e w1 ⟨rfl, hb⟩
    replace hb0 := hb0.step hb
    have hla := hb0.lt; have hlla := lts hla; have qa0 := hb0.cell 0; have qa1 := hb0.cell 1; simp at qa0 qa1; have za0 := hb0.frozen 0; have za1 := hb0.frozen 1; have Hhb0 := Lib.hid hb0; clear hb0
    go_wp2
    go_ret
    exact ⟨by rw [HS.out]; simp [he], by (repeat' first | (with_reducible first | exact .refl _ _ | assumption | apply balloc | apply Below.drew | apply bset | refine bstep ?_ ‹_› | refine bturn ?_ ‹_› ?_) | go_size)⟩

end Go.Proofs.YtlmcjnekkhdmiaaDoor
