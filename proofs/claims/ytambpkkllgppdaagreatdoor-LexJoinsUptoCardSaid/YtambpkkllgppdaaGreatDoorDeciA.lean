/- The walks of package deci: powers of ten, the shortest form, numbers made. -/
import Derived.Test.YtambpkkllgppdaaGreatDoorDeciMath
import Derived.Deep.LoopGhost
namespace Go.Proofs.YtambpkkllgppdaaGreatDoor
open Go.RowKit

set_option maxHeartbeats 1000000 in
theorem short_any (n s : Int) (h0 : 0 ≤ n) (h1 : n ≤ 18446744073709551615) (h2 : 0 ≤ s) (h3 : s ≤ 100) (w : World) :
    Calls Tryz.prog 122 #[.agg #[.int .u64 n, .int .i64 s]] w fun e w' => e = .returned (.agg #[.int .u64 (short s.toNat n).1, .int .i64 (short s.toNat n).2]) ∧ Below w.heap.size w w' := by
  go_enter Tryz.func122, Tryz.ntmps122
  go_wp2
  go_loopg [] s.toNat (fun k wr => ∃ m : Int, 0 ≤ m ∧ m ≤ n ∧ k ≤ s.toNat ∧ Blk wr w.heap.size 127 #[.int .u64 m, .int .i64 k] ∧ Blk wr (w.heap.size + 1) 127 #[.int .u64 0, .int .i64 0] ∧ Below w.heap.size w wr ∧ short s.toNat n = short k m)
  case atStart => exact ⟨n, h0, Int.le_refl _, Nat.le_refl _, by rw [Int.toNat_of_nonneg h2]; exact (Blk.new _ _ _).alloc _, Blk.new' _ _ _ (by simp), by (repeat' (first | (with_reducible exact Below.refl _ _) | (with_reducible assumption) | (with_reducible refine balloc ?_ _) | (with_reducible refine Below.drew ?_) | (with_reducible refine bset ?_ ?_ _) | (with_reducible refine bstep ?_ (by with_reducible assumption)) | (with_reducible refine bturn ?_ (by with_reducible assumption) ?_) | go_size)), rfl⟩
  case round =>
    obtain ⟨m, hm0, hm1, hk, hb0, hb1, hbl, hs⟩ := hrel
    have HS := Lib.hid hs
    clear hs
    have hl0 := hb0.lt
    have c0 := hb0.cell 0
    have c1 := hb0.cell 1
    simp at c0 c1
    have z0 := hb0.frozen 0
    have z1 := hb0.frozen 1
    by_cases hz : gk = 0
    · subst hz
      go_wp2_with (refine wpList_store_blk hb1 rfl _ _ _ (by rfl) _ (by rfl) (by rfl) (by (repeat (first | (with_reducible exact hb1) | (with_reducible refine Blk.alloc ?_ _) | (with_reducible refine Blk.drew ?_) | (with_reducible refine Blk.far ?_ (by first | (simp; done) | (simp; omega)) _) | (with_reducible refine Blk.turn ?_ (by with_reducible assumption) (by omega))))) (by rfl) (by kernel_rfl) (by simp [Value.oneCell']) ?_; intro wt hb1n ht)
      refine ret_blk rfl hb1n rfl Tryz.underlying127 rfl (by kernel_rfl) rfl ?_
      exact ⟨by rw [HS.out]; rfl, bturn hbl ht (by omega)⟩
    · by_cases hd : m % 10 = 0
      · go_wp2_with (refine wpList_store_blk hb1 rfl _ _ _ (by rfl) _ (by rfl) (by rfl) (by (repeat (first | (with_reducible exact hb1) | (with_reducible refine Blk.alloc ?_ _) | (with_reducible refine Blk.drew ?_) | (with_reducible refine Blk.far ?_ (by first | (simp; done) | (simp; omega)) _) | (with_reducible refine Blk.turn ?_ (by with_reducible assumption) (by omega))))) (by rfl) (by kernel_rfl) (by simp [Value.oneCell']) ?_; intro wt hb1n ht)
        go_roundg (gk - 1)
        case measure => omega
        case rel =>
          refine ⟨m / 10, by omega, by omega, by omega, ?_, ?_, ?_, ?_⟩
          · have := (hb0.set_ 0 (.int .u64 (m / 10))).set_ 1 (.int .i64 ((gk : Int) - 1))
            rw [show (((gk - 1 : Nat) : Int)) = (gk : Int) - 1 from by omega]
            exact this
          · exact (hb1.far (by simp) _).far (by simp) _
          · exact bset (bset hbl (Nat.le_refl _) _) (Nat.le_refl _) _
          · rw [HS.out]
            obtain ⟨j, rfl⟩ : ∃ j, gk = j + 1 := ⟨gk - 1, by omega⟩
            exact short_go hd
      · go_wp2_with (refine wpList_store_blk hb1 rfl _ _ _ (by rfl) _ (by rfl) (by rfl) (by (repeat (first | (with_reducible exact hb1) | (with_reducible refine Blk.alloc ?_ _) | (with_reducible refine Blk.drew ?_) | (with_reducible refine Blk.far ?_ (by first | (simp; done) | (simp; omega)) _) | (with_reducible refine Blk.turn ?_ (by with_reducible assumption) (by omega))))) (by rfl) (by kernel_rfl) (by simp [Value.oneCell']) ?_; intro wt hb1n ht)
        refine ret_blk rfl hb1n rfl Tryz.underlying127 rfl (by kernel_rfl) rfl ?_
        exact ⟨by rw [HS.out, short_stop (.inr hd)], bturn hbl ht (by omega)⟩

set_option maxHeartbeats 1000000 in
/-- (form).dec: as a number, below 0 or not. -/
theorem dec_any (n s : Int) (b : Bool) (h0 : 0 ≤ n) (h1 : n ≤ 18446744073709551615) (h2 : 0 ≤ s) (h3 : s ≤ 100) (w : World) :
    Calls Tryz.prog 92 #[.agg #[.int .u64 n, .int .i64 s], .bool b] w fun e w' => e = .returned (.tuple #[.agg #[.int .i64 (decS s.toNat n b).n, .int .i64 (decS s.toNat n b).s], .int .i64 (decS s.toNat n b).e]) ∧ Below w.heap.size w w' := by
  have hbd := short_bd s.toNat n h0
  have hs := short_any n s h0 h1 h2 h3
  have HD : Hid (∀ q : Int × Int, short s.toNat n = q → decS s.toNat n b = if 999999999999 < q.1 then ⟨0, 0, 3⟩ else ⟨if b then -q.1 else q.1, q.2, 0⟩) := fun q hq => by unfold decS; rw [hq]; rfl
  generalize hq : short s.toNat n = q at *
  obtain ⟨m, t⟩ := q
  have HD' := HD.out _ rfl
  simp only at HD' hs
  have HS := Lib.hid hs
  clear HD hs hq
  simp only at hbd
  have hb0 := (Blk.new w 127 #[.int .u64 n, .int .i64 s]).alloc (.cells #[.int .i64 0, .int .i64 0] 36)
  have hb1 := Blk.new' (w.alloc (.cells #[.int .u64 n, .int .i64 s] 127)) 36 #[.int .i64 0, .int .i64 0] (n := w.heap.size + 1) (by simp)
  by_cases hbig : 999999999999 < m
  · rw [if_pos hbig] at HD'; replace HD' := Lib.hid HD'
    go_enter Tryz.func92, Tryz.ntmps92
    go_wp2_with fail
    refine (HS.out _).mono ?_
    rintro e w1 ⟨rfl, hb⟩
    replace hb0 := hb0.step hb
    replace hb1 := hb1.step hb
    go_wp2_with (first | (refine wpList_store_blk hb0 rfl _ _ _ (by rfl) _ (by rfl) (by rfl) (by (repeat (first | (with_reducible exact hb0) | (with_reducible refine Blk.alloc ?_ _) | (with_reducible refine Blk.drew ?_) | (with_reducible refine Blk.far ?_ (by first | (simp; done) | (simp; omega)) _) | (with_reducible refine Blk.turn ?_ (by with_reducible assumption) (by omega))))) (by rfl) (by kernel_rfl) (by simp [Value.oneCell']) ?_; intro wt hb0n ht; have c0 := hb0n.cell 0; simp at c0) | (refine wpList_store_blk hb1 rfl _ _ _ (by rfl) _ (by rfl) (by rfl) (by (repeat (first | (with_reducible exact hb1) | (with_reducible refine Blk.alloc ?_ _) | (with_reducible refine Blk.drew ?_) | (with_reducible refine Blk.far ?_ (by first | (simp; done) | (simp; omega)) _) | (with_reducible refine Blk.turn ?_ (by with_reducible assumption) (by omega))))) (by rfl) (by kernel_rfl) (by simp [Value.oneCell']) ?_; intro wt hb1n ht))
    refine ret_blk2 rfl hb1n rfl Tryz.underlying36 rfl (by kernel_rfl) rfl ?_
    exact ⟨by rw [HD'.out]; rfl, by (repeat' (first | (with_reducible exact Below.refl _ _) | (with_reducible assumption) | (with_reducible refine balloc ?_ _) | (with_reducible refine Below.drew ?_) | (with_reducible refine bset ?_ ?_ _) | (with_reducible refine bstep ?_ (by with_reducible assumption)) | (with_reducible refine bturn ?_ (by with_reducible assumption) ?_) | go_size))⟩
  · rw [if_neg hbig] at HD'; replace HD' := Lib.hid HD'
    cases b
    all_goals
      go_enter Tryz.func92, Tryz.ntmps92
      go_wp2_with fail
      refine (HS.out _).mono ?_
      rintro e w1 ⟨rfl, hb⟩
      replace hb0 := hb0.step hb
      replace hb1 := hb1.step hb
      go_wp2_with (first | (refine wpList_store_blk hb0 rfl _ _ _ (by rfl) _ (by rfl) (by rfl) (by (repeat (first | (with_reducible exact hb0) | (with_reducible refine Blk.alloc ?_ _) | (with_reducible refine Blk.drew ?_) | (with_reducible refine Blk.far ?_ (by first | (simp; done) | (simp; omega)) _) | (with_reducible refine Blk.turn ?_ (by with_reducible assumption) (by omega))))) (by rfl) (by kernel_rfl) (by simp [Value.oneCell']) ?_; intro wt hb0n ht; have c0 := hb0n.cell 0; have c1 := hb0n.cell 1; simp at c0 c1) | (refine wpList_store_blk hb1 rfl _ _ _ (by rfl) _ (by rfl) (by rfl) (by (repeat (first | (with_reducible exact hb1) | (with_reducible refine Blk.alloc ?_ _) | (with_reducible refine Blk.drew ?_) | (with_reducible refine Blk.far ?_ (by first | (simp; done) | (simp; omega)) _) | (with_reducible refine Blk.turn ?_ (by with_reducible assumption) (by omega))))) (by rfl) (by kernel_rfl) (by simp [Value.oneCell']) ?_; intro wt hb1n ht))
      refine ret_blk2 rfl hb1n rfl Tryz.underlying36 rfl (by kernel_rfl) rfl ?_
      exact ⟨by rw [HD'.out]; rfl, by (repeat' (first | (with_reducible exact Below.refl _ _) | (with_reducible assumption) | (with_reducible refine balloc ?_ _) | (with_reducible refine Below.drew ?_) | (with_reducible refine bset ?_ ?_ _) | (with_reducible refine bstep ?_ (by with_reducible assumption)) | (with_reducible refine bturn ?_ (by with_reducible assumption) ?_) | go_size))⟩
end Go.Proofs.YtambpkkllgppdaaGreatDoor
