/- The walks of package deci: powers of ten, the shortest form, numbers made. -/
import Derived.Test.YtlmcjnekkhdmiaaDoorDeciMath
import Derived.Deep.LoopGhost
set_option linter.unusedVariables false
set_option linter.unusedSimpArgs false
namespace Go.Proofs.YtlmcjnekkhdmiaaDoor
open Go.RowKit

theorem power_any (n : Int) (h0 : 0 ≤ n) (h1 : n ≤ 12) (w : World) : Calls Tryd.prog 44 #[.int .i64 n] w fun e w' => e = .returned (.int .u64 (p10 n.toNat)) ∧ w = w' := by
  obtain ⟨n, rfl⟩ := Int.eq_ofNat_of_zero_le h0
  rw [Int.toNat_natCast]
  have hn : n ≤ 12 := by omega
  go_enter Tryd.func44, Tryd.ntmps44
  go_wp2
  go_loop [3, 5] (fun p i => ∃ k : Nat, k ≤ n ∧ i = .int .i64 k ∧ p = .int .u64 (p10 k)) (fun _ i => n - (intOf i).toNat)
  case atStart => exact ⟨0, Nat.zero_le _, rfl, rfl⟩
  case round =>
    obtain ⟨k, hk, rfl, rfl⟩ := hrel
    have hp := p10_pos k
    have hb : p10 k ≤ 1000000000000 := p10_12 ▸ p10_mono (by omega)
    have HS := Lib.hid (p10_succ k)
    by_cases hlt : k < n
    · go_wp2
      go_round
      case rel => exact ⟨k + 1, by omega, by go_num, by rw [HS.out]⟩
      case measure => simp [intOf]; omega
    · obtain rfl : k = n := by omega
      go_wp2
      go_ret
      exact ⟨rfl, rfl⟩

set_option maxHeartbeats 1000000 in
theorem short_any (n s : Int) (h0 : 0 ≤ n) (h1 : n ≤ 18446744073709551615) (h2 : 0 ≤ s) (h3 : s ≤ 100) (w : World) :
    Calls Tryd.prog 41 #[.agg #[.int .u64 n, .int .i64 s]] w fun e w' => e = .returned (.agg #[.int .u64 (short s.toNat n).1, .int .i64 (short s.toNat n).2]) ∧ Below w.heap.size w w' := by
  go_enter Tryd.func41, Tryd.ntmps41
  go_wp2
  go_loopg [] s.toNat (fun k wr => ∃ m : Int, 0 ≤ m ∧ m ≤ n ∧ k ≤ s.toNat ∧ Blk wr w.heap.size 50 #[.int .u64 m, .int .i64 k] ∧ Blk wr (w.heap.size + 1) 50 #[.int .u64 0, .int .i64 0] ∧ Below w.heap.size w wr ∧ short s.toNat n = short k m)
  case atStart => exact ⟨n, h0, Int.le_refl _, Nat.le_refl _, by rw [Int.toNat_of_nonneg h2]; exact (Blk.new _ _ _).alloc _, Blk.new' _ _ _ (by simp), by (repeat' first | (with_reducible first | exact .refl _ _ | assumption | apply balloc | apply Below.drew | apply bset | refine bstep ?_ ‹_› | refine bturn ?_ ‹_› ?_) | go_size), rfl⟩
  case round =>
    obtain ⟨m, hm0, hm1, hk, hb0, hb1, hbl, hs⟩ := hrel
    have HS := Lib.hid hs
    clear hs
    have hl0 := hb0.lt
    have c0 := hb0.cell 0
    have c1 := hb0.cell 1
    simp at c0 c1
    have z0 := hb0.frozen 0
    have z1 := hb0.frozen 1
    by_cases hz : gk = 0
    · subst hz
      go_wp2_with (refine wpList_store_blk hb1 rfl _ _ _ (by rfl) _ (by rfl) (by rfl) (by repeat first | with_reducible first | exact hb1 | apply Blk.alloc | apply Blk.drew | refine Blk.far ?_ (by simp <;> omega) _ | refine Blk.turn ?_ ‹_› (by omega)) (by rfl) (by kernel_rfl) (by simp [Value.oneCell']) ?_; intro wt hb1n ht)
      refine ret_blk rfl hb1n rfl Tryd.underlying50 rfl (by kernel_rfl) rfl ?_
      exact ⟨by rw [HS.out]; rfl, bturn hbl ht (by omega)⟩
    · by_cases hd : m % 10 = 0
      · go_wp2_with (refine wpList_store_blk hb1 rfl _ _ _ (by rfl) _ (by rfl) (by rfl) (by repeat first | with_reducible first | exact hb1 | apply Blk.alloc | apply Blk.drew | refine Blk.far ?_ (by simp <;> omega) _ | refine Blk.turn ?_ ‹_› (by omega)) (by rfl) (by kernel_rfl) (by simp [Value.oneCell']) ?_; intro wt hb1n ht)
        go_roundg (gk - 1)
        case measure => omega
        case rel =>
          refine ⟨m / 10, by omega, by omega, by omega, ?_, ?_, ?_, ?_⟩
          · have := (hb0.set_ 0 (.int .u64 (m / 10))).set_ 1 (.int .i64 ((gk : Int) - 1))
            rw [show (((gk - 1 : Nat) : Int)) = (gk : Int) - 1 from by omega]
            exact this
          · exact (hb1.far (by simp) _).far (by simp) _
          · exact bset (bset hbl (Nat.le_refl _) _) (Nat.le_refl _) _
          · rw [HS.out]
            obtain ⟨j, rfl⟩ : ∃ j, gk = j + 1 := ⟨gk - 1, by omega⟩
            exact short_go hd
      · go_wp2_with (refine wpList_store_blk hb1 rfl _ _ _ (by rfl) _ (by rfl) (by rfl) (by repeat first | with_reducible first | exact hb1 | apply Blk.alloc | apply Blk.drew | refine Blk.far ?_ (by simp <;> omega) _ | refine Blk.turn ?_ ‹_› (by omega)) (by rfl) (by kernel_rfl) (by simp [Value.oneCell']) ?_; intro wt hb1n ht)
        refine ret_blk rfl hb1n rfl Tryd.underlying50 rfl (by kernel_rfl) rfl ?_
        exact ⟨by rw [HS.out, short_stop (.inr hd)], bturn hbl ht (by omega)⟩

set_option maxHeartbeats 1000000 in
/-- (form).dec: as a number, below 0 or not. -/
theorem dec_any (n s : Int) (b : Bool) (h0 : 0 ≤ n) (h1 : n ≤ 18446744073709551615) (h2 : 0 ≤ s) (h3 : s ≤ 100) (w : World) :
    Calls Tryd.prog 20 #[.agg #[.int .u64 n, .int .i64 s], .bool b] w fun e w' => e = .returned (.tuple #[.agg #[.int .i64 (decS s.toNat n b).n, .int .i64 (decS s.toNat n b).s], .int .i64 (decS s.toNat n b).e]) ∧ Below w.heap.size w w' := by
  have hbd := short_bd s.toNat n h0
  have hs := short_any n s h0 h1 h2 h3
  have HD : Hid (∀ q : Int × Int, short s.toNat n = q → decS s.toNat n b = if 999999999999 < q.1 then ⟨0, 0, 3⟩ else ⟨if b then -q.1 else q.1, q.2, 0⟩) := fun q hq => by unfold decS; rw [hq]; rfl
  generalize hq : short s.toNat n = q at *
  obtain ⟨m, t⟩ := q
  have HD' := HD.out _ rfl
  simp only at HD' hs
  have HS := Lib.hid hs
  clear HD hs hq
  simp only at hbd
  have hb0 := (Blk.new w 50 #[.int .u64 n, .int .i64 s]).alloc (.cells #[.int .i64 0, .int .i64 0] 23)
  have hb1 := Blk.new' (w.alloc (.cells #[.int .u64 n, .int .i64 s] 50)) 23 #[.int .i64 0, .int .i64 0] (n := w.heap.size + 1) (by simp)
  by_cases hbig : 999999999999 < m
  · rw [if_pos hbig] at HD'; replace HD' := Lib.hid HD'
    go_enter Tryd.func20, Tryd.ntmps20
    go_wp2_with fail
    refine (HS.out _).mono ?_
    rintro e w1 ⟨rfl, hb⟩
    replace hb0 := hb0.step hb
    replace hb1 := hb1.step hb
    go_wp2_with (first | (refine wpList_store_blk hb0 rfl _ _ _ (by rfl) _ (by rfl) (by rfl) (by repeat first | with_reducible first | exact hb0 | apply Blk.alloc | apply Blk.drew | refine Blk.far ?_ (by simp <;> omega) _ | refine Blk.turn ?_ ‹_› (by omega)) (by rfl) (by kernel_rfl) (by simp [Value.oneCell']) ?_; intro wt hb0n ht; have c0 := hb0n.cell 0; simp at c0) | (refine wpList_store_blk hb1 rfl _ _ _ (by rfl) _ (by rfl) (by rfl) (by repeat first | with_reducible first | exact hb1 | apply Blk.alloc | apply Blk.drew | refine Blk.far ?_ (by simp <;> omega) _ | refine Blk.turn ?_ ‹_› (by omega)) (by rfl) (by kernel_rfl) (by simp [Value.oneCell']) ?_; intro wt hb1n ht))
    refine ret_blk2 rfl hb1n rfl Tryd.underlying23 rfl (by kernel_rfl) rfl ?_
    exact ⟨by rw [HD'.out]; rfl, by (repeat' first | (with_reducible first | exact .refl _ _ | assumption | apply balloc | apply Below.drew | apply bset | refine bstep ?_ ‹_› | refine bturn ?_ ‹_› ?_) | go_size)⟩
  · rw [if_neg hbig] at HD'; replace HD' := Lib.hid HD'
    cases b
    all_goals
      go_enter Tryd.func20, Tryd.ntmps20
      go_wp2_with fail
      refine (HS.out _).mono ?_
      rintro e w1 ⟨rfl, hb⟩
      replace hb0 := hb0.step hb
      replace hb1 := hb1.step hb
      go_wp2_with (first | (refine wpList_store_blk hb0 rfl _ _ _ (by rfl) _ (by rfl) (by rfl) (by repeat first | with_reducible first | exact hb0 | apply Blk.alloc | apply Blk.drew | refine Blk.far ?_ (by simp <;> omega) _ | refine Blk.turn ?_ ‹_› (by omega)) (by rfl) (by kernel_rfl) (by simp [Value.oneCell']) ?_; intro wt hb0n ht; have c0 := hb0n.cell 0; have c1 := hb0n.cell 1; simp at c0 c1) | (refine wpList_store_blk hb1 rfl _ _ _ (by rfl) _ (by rfl) (by rfl) (by repeat first | with_reducible first | exact hb1 | apply Blk.alloc | apply Blk.drew | refine Blk.far ?_ (by simp <;> omega) _ | refine Blk.turn ?_ ‹_› (by omega)) (by rfl) (by kernel_rfl) (by simp [Value.oneCell']) ?_; intro wt hb1n ht))
      refine ret_blk2 rfl hb1n rfl Tryd.underlying23 rfl (by kernel_rfl) rfl ?_
      exact ⟨by rw [HD'.out]; rfl, by (repeat' first | (with_reducible first | exact .refl _ _ | assumption | apply balloc | apply Below.drew | apply bset | refine bstep ?_ ‹_› | refine bturn ?_ ‹_› ?_) | go_size)⟩
end Go.Proofs.YtlmcjnekkhdmiaaDoor
