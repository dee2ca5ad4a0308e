/- The walk of lex.next, case by case. The walks of lex.signs, and of lex.next at a sign. The walk of lex.next at every text. The walk of lex.Tokens. -/
import Derived.Deep.LoopGhost
import Derived.Laws.AppendOwn
import Derived.OwnWalk
import Derived.Test.YtapilekangmcoaaGreatDoorN4
set_option linter.unusedVariables false
set_option linter.unusedSimpArgs false
set_option maxHeartbeats 8000000
set_option maxRecDepth 100000
namespace Go.Proofs.YtapilekangmcoaaGreatDoor
open Go.RowKit
set_option maxHeartbeats 4000000 in
theorem next_num (cv : Int) (s : ByteArray) (hs : s.size ≤ 4000000) (h0 : 0 < s.size) (hv : (((s[0]'h0).toNat : Nat) : Int) = cv) (w : World) (i1 : Int) (hi1 : 0 ≤ i1) (HI1 : Hid (∀ W, Calls Tryz.prog 113 #[.string ⟨#[48, 49, 50, 51, 52, 53, 54, 55, 56, 57]⟩, .int .u8 cv] W fun e w' => e = .returned (.int .i64 i1) ∧ W = w')) (k0 a0 n0 s0 m0 : Int) (t0 : ByteArray) (n ee : Int) (HN : Hid (∀ W, Below w.heap.size w W → Calls Tryz.prog 114 #[.string s] W fun e w' => e = .returned (.tuple #[.agg #[.int .i64 k0, .int .i64 a0, .string t0, .int .i64 n0, .int .i64 s0, .int .i64 m0], .int .i64 n, .int .i64 ee]) ∧ Below W.heap.size W w')) :
   Calls Tryz.prog 73 #[.string s] w fun e w' => e = .returned (.tuple #[.agg #[.int .i64 k0, .int .i64 a0, .string t0, .int .i64 n0, .int .i64 s0, .int .i64 m0], .int .i64 n, .int .i64 ee]) ∧ Below w.heap.size w w' := by
 have hb1 := Blk.new w 101 #[.int .i64 0, .int .i64 0, .string ⟨#[]⟩, .int .i64 0, .int .i64 0, .int .i64 0]
 go_enter Tryz.func73, Tryz.ntmps73
 go_wp2_with fail
 refine (HI1.out _).mono ?_
 rintro _ _ ⟨rfl, rfl⟩
 go_wp2_with fail
 refine (HN.out _ (by (repeat' first | (with_reducible first | exact .refl _ _ | assumption | apply balloc | apply Below.drew | apply bset | refine bstep ?_ ‹_› | refine bturn ?_ ‹_› ?_) | go_size))).mono ?_
 rintro _ w1 ⟨rfl, hw1⟩
 replace hb1 := hb1.step hw1
 go_wp2_with (first | (refine wpList_store_blk hb1 rfl _ _ _ (by rfl) _ (by rfl) (by rfl) (by repeat first | with_reducible first | exact hb1 | apply Blk.alloc | apply Blk.drew | refine Blk.far ?_ (by simp <;> omega) _ | refine Blk.turn ?_ ‹_› (by omega)) (by rfl) (by kernel_rfl) (by simp [Value.oneCell']) ?_; intro wt hb1n ht))
 refine ret_blk3 rfl hb1n rfl Tryz.underlying101 rfl (by kernel_rfl) rfl ?_
 exact ⟨rfl, by (repeat' first | (with_reducible first | exact .refl _ _ | assumption | apply balloc | apply Below.drew | apply bset | refine bstep ?_ ‹_› | refine bturn ?_ ‹_› ?_) | go_size)⟩
set_option maxHeartbeats 4000000 in
theorem next_str_none (s : ByteArray) (hs : s.size ≤ 4000000) (h0 : 0 < s.size) (hv : (((s[0]'h0).toNat : Nat) : Int) = 34) (w : World) (i1 : Int) (hi1 : ¬ 0 ≤ i1) (HI1 : Hid (∀ W, Calls Tryz.prog 113 #[.string ⟨#[48, 49, 50, 51, 52, 53, 54, 55, 56, 57]⟩, .int .u8 34] W fun e w' => e = .returned (.int .i64 i1) ∧ W = w')) (HQ : Hid (∀ W, Calls Tryz.prog 115 #[.string s] W fun e w' => e = .returned (.tuple #[.string ⟨#[]⟩, .int .i64 0, .bool false]) ∧ Below W.heap.size W w')) :
   Calls Tryz.prog 73 #[.string s] w fun e w' => e = .returned (.tuple #[.agg #[.int .i64 0, .int .i64 0, .string ⟨#[]⟩, .int .i64 0, .int .i64 0, .int .i64 0], .int .i64 0, .int .i64 5]) ∧ Below w.heap.size w w' := by
 have hb1 := Blk.new w 101 #[.int .i64 0, .int .i64 0, .string ⟨#[]⟩, .int .i64 0, .int .i64 0, .int .i64 0]
 go_enter Tryz.func73, Tryz.ntmps73
 go_wp2_with fail
 refine (HI1.out _).mono ?_
 rintro _ _ ⟨rfl, rfl⟩
 go_wp2_with fail
 refine (HQ.out _ ).mono ?_
 rintro _ w1 ⟨rfl, hw1⟩
 replace hb1 := hb1.step hw1
 go_wp2_with (first | (refine wpList_store_blk hb1 rfl _ _ _ (by rfl) _ (by rfl) (by rfl) (by repeat first | with_reducible first | exact hb1 | apply Blk.alloc | apply Blk.drew | refine Blk.far ?_ (by simp <;> omega) _ | refine Blk.turn ?_ ‹_› (by omega)) (by rfl) (by kernel_rfl) (by simp [Value.oneCell']) ?_; intro wt hb1n ht))
 refine ret_blk3 rfl hb1n rfl Tryz.underlying101 rfl (by kernel_rfl) rfl ?_
 exact ⟨rfl, by (repeat' first | (with_reducible first | exact .refl _ _ | assumption | apply balloc | apply Below.drew | apply bset | refine bstep ?_ ‹_› | refine bturn ?_ ‹_› ?_) | go_size)⟩
set_option maxHeartbeats 4000000 in
theorem next_str_long (s : ByteArray) (hs : s.size ≤ 4000000) (h0 : 0 < s.size) (hv : (((s[0]'h0).toNat : Nat) : Int) = 34) (w : World) (i1 : Int) (hi1 : ¬ 0 ≤ i1) (HI1 : Hid (∀ W, Calls Tryz.prog 113 #[.string ⟨#[48, 49, 50, 51, 52, 53, 54, 55, 56, 57]⟩, .int .u8 34] W fun e w' => e = .returned (.int .i64 i1) ∧ W = w')) (q : ByteArray) (n : Int) (hq : (256 : Int) < (q.size : Int)) (HQ : Hid (∀ W, Calls Tryz.prog 115 #[.string s] W fun e w' => e = .returned (.tuple #[.string q, .int .i64 n, .bool true]) ∧ Below W.heap.size W w')) :
   Calls Tryz.prog 73 #[.string s] w fun e w' => e = .returned (.tuple #[.agg #[.int .i64 0, .int .i64 0, .string ⟨#[]⟩, .int .i64 0, .int .i64 0, .int .i64 0], .int .i64 0, .int .i64 5]) ∧ Below w.heap.size w w' := by
 have hb1 := Blk.new w 101 #[.int .i64 0, .int .i64 0, .string ⟨#[]⟩, .int .i64 0, .int .i64 0, .int .i64 0]
 go_enter Tryz.func73, Tryz.ntmps73
 go_wp2_with fail
 refine (HI1.out _).mono ?_
 rintro _ _ ⟨rfl, rfl⟩
 go_wp2_with fail
 refine (HQ.out _ ).mono ?_
 rintro _ w1 ⟨rfl, hw1⟩
 replace hb1 := hb1.step hw1
 go_wp2_with (first | (refine wpList_store_blk hb1 rfl _ _ _ (by rfl) _ (by rfl) (by rfl) (by repeat first | with_reducible first | exact hb1 | apply Blk.alloc | apply Blk.drew | refine Blk.far ?_ (by simp <;> omega) _ | refine Blk.turn ?_ ‹_› (by omega)) (by rfl) (by kernel_rfl) (by simp [Value.oneCell']) ?_; intro wt hb1n ht))
 refine ret_blk3 rfl hb1n rfl Tryz.underlying101 rfl (by kernel_rfl) rfl ?_
 exact ⟨rfl, by (repeat' first | (with_reducible first | exact .refl _ _ | assumption | apply balloc | apply Below.drew | apply bset | refine bstep ?_ ‹_› | refine bturn ?_ ‹_› ?_) | go_size)⟩
set_option maxHeartbeats 4000000 in
theorem next_str_bad (s : ByteArray) (hs : s.size ≤ 4000000) (h0 : 0 < s.size) (hv : (((s[0]'h0).toNat : Nat) : Int) = 34) (w : World) (i1 : Int) (hi1 : ¬ 0 ≤ i1) (HI1 : Hid (∀ W, Calls Tryz.prog 113 #[.string ⟨#[48, 49, 50, 51, 52, 53, 54, 55, 56, 57]⟩, .int .u8 34] W fun e w' => e = .returned (.int .i64 i1) ∧ W = w')) (q : ByteArray) (n : Int) (hq : ¬ (256 : Int) < (q.size : Int)) (HQ : Hid (∀ W, Calls Tryz.prog 115 #[.string s] W fun e w' => e = .returned (.tuple #[.string q, .int .i64 n, .bool true]) ∧ Below W.heap.size W w')) (HG : Hid (∀ W, Below w.heap.size w W → Calls Tryz.prog 55 #[.string q] W fun e w' => e = .returned (.bool false) ∧ Below W.heap.size W w')) :
   Calls Tryz.prog 73 #[.string s] w fun e w' => e = .returned (.tuple #[.agg #[.int .i64 0, .int .i64 0, .string ⟨#[]⟩, .int .i64 0, .int .i64 0, .int .i64 0], .int .i64 0, .int .i64 5]) ∧ Below w.heap.size w w' := by
 have hb1 := Blk.new w 101 #[.int .i64 0, .int .i64 0, .string ⟨#[]⟩, .int .i64 0, .int .i64 0, .int .i64 0]
 go_enter Tryz.func73, Tryz.ntmps73
 go_wp2_with fail
 refine (HI1.out _).mono ?_
 rintro _ _ ⟨rfl, rfl⟩
 go_wp2_with fail
 refine (HQ.out _ ).mono ?_
 rintro _ w1 ⟨rfl, hw1⟩
 replace hb1 := hb1.step hw1
 go_wp2_with fail
 refine (HG.out _ (by (repeat' first | (with_reducible first | exact .refl _ _ | assumption | apply balloc | apply Below.drew | apply bset | refine bstep ?_ ‹_› | refine bturn ?_ ‹_› ?_) | go_size))).mono ?_
 rintro _ w2 ⟨rfl, hw2⟩
 replace hb1 := hb1.step hw2
 go_wp2_with (first | (refine wpList_store_blk hb1 rfl _ _ _ (by rfl) _ (by rfl) (by rfl) (by repeat first | with_reducible first | exact hb1 | apply Blk.alloc | apply Blk.drew | refine Blk.far ?_ (by simp <;> omega) _ | refine Blk.turn ?_ ‹_› (by omega)) (by rfl) (by kernel_rfl) (by simp [Value.oneCell']) ?_; intro wt hb1n ht))
 refine ret_blk3 rfl hb1n rfl Tryz.underlying101 rfl (by kernel_rfl) rfl ?_
 exact ⟨rfl, by (repeat' first | (with_reducible first | exact .refl _ _ | assumption | apply balloc | apply Below.drew | apply bset | refine bstep ?_ ‹_› | refine bturn ?_ ‹_› ?_) | go_size)⟩
set_option maxHeartbeats 4000000 in
theorem next_str_ok (s : ByteArray) (hs : s.size ≤ 4000000) (h0 : 0 < s.size) (hv : (((s[0]'h0).toNat : Nat) : Int) = 34) (w : World) (i1 : Int) (hi1 : ¬ 0 ≤ i1) (HI1 : Hid (∀ W, Calls Tryz.prog 113 #[.string ⟨#[48, 49, 50, 51, 52, 53, 54, 55, 56, 57]⟩, .int .u8 34] W fun e w' => e = .returned (.int .i64 i1) ∧ W = w')) (q : ByteArray) (n : Int) (hq : ¬ (256 : Int) < (q.size : Int)) (HQ : Hid (∀ W, Calls Tryz.prog 115 #[.string s] W fun e w' => e = .returned (.tuple #[.string q, .int .i64 n, .bool true]) ∧ Below W.heap.size W w')) (HG : Hid (∀ W, Below w.heap.size w W → Calls Tryz.prog 55 #[.string q] W fun e w' => e = .returned (.bool true) ∧ Below W.heap.size W w')) :
   Calls Tryz.prog 73 #[.string s] w fun e w' => e = .returned (.tuple #[.agg #[.int .i64 2, .int .i64 0, .string q, .int .i64 0, .int .i64 0, .int .i64 0], .int .i64 n, .int .i64 0]) ∧ Below w.heap.size w w' := by
 have hb1 := Blk.new w 101 #[.int .i64 0, .int .i64 0, .string ⟨#[]⟩, .int .i64 0, .int .i64 0, .int .i64 0]
 go_enter Tryz.func73, Tryz.ntmps73
 go_wp2_with fail
 refine (HI1.out _).mono ?_
 rintro _ _ ⟨rfl, rfl⟩
 go_wp2_with fail
 refine (HQ.out _ ).mono ?_
 rintro _ w1 ⟨rfl, hw1⟩
 replace hb1 := hb1.step hw1
 go_wp2_with fail
 refine (HG.out _ (by (repeat' first | (with_reducible first | exact .refl _ _ | assumption | apply balloc | apply Below.drew | apply bset | refine bstep ?_ ‹_› | refine bturn ?_ ‹_› ?_) | go_size))).mono ?_
 rintro _ w2 ⟨rfl, hw2⟩
 replace hb1 := hb1.step hw2
 go_wp2_with (first | (refine wpList_store_blk hb1 rfl _ _ _ (by rfl) _ (by rfl) (by rfl) (by repeat first | with_reducible first | exact hb1 | apply Blk.alloc | apply Blk.drew | refine Blk.far ?_ (by simp <;> omega) _ | refine Blk.turn ?_ ‹_› (by omega)) (by rfl) (by kernel_rfl) (by simp [Value.oneCell']) ?_; intro wt hb1n ht))
 refine ret_blk3 rfl hb1n rfl Tryz.underlying101 rfl (by kernel_rfl) rfl ?_
 exact ⟨rfl, by (repeat' first | (with_reducible first | exact .refl _ _ | assumption | apply balloc | apply Below.drew | apply bset | refine bstep ?_ ‹_› | refine bturn ?_ ‹_› ?_) | go_size)⟩
set_option maxHeartbeats 4000000 in
theorem next_at_short (s : ByteArray) (hs : s.size ≤ 4000000) (h0 : 0 < s.size) (hv : (((s[0]'h0).toNat : Nat) : Int) = 64) (w : World) (i1 : Int) (hi1 : ¬ 0 ≤ i1) (HI1 : Hid (∀ W, Calls Tryz.prog 113 #[.string ⟨#[48, 49, 50, 51, 52, 53, 54, 55, 56, 57]⟩, .int .u8 64] W fun e w' => e = .returned (.int .i64 i1) ∧ W = w')) (h1 : ¬ (1 : Int) < (s.size : Int)) (d de : Int) (HD : Hid (∀ W, Below w.heap.size w W → Calls Tryz.prog 116 #[.string ⟨#[]⟩] W fun e w' => e = .returned (.tuple #[.int .i64 d, .int .i64 de]) ∧ Below W.heap.size W w')) :
   Calls Tryz.prog 73 #[.string s] w fun e w' => e = .returned (.tuple #[.agg #[.int .i64 0, .int .i64 0, .string ⟨#[]⟩, .int .i64 0, .int .i64 0, .int .i64 0], .int .i64 0, .int .i64 5]) ∧ Below w.heap.size w w' := by
 have hb1 := Blk.new w 101 #[.int .i64 0, .int .i64 0, .string ⟨#[]⟩, .int .i64 0, .int .i64 0, .int .i64 0]
 go_enter Tryz.func73, Tryz.ntmps73
 go_wp2_with fail
 refine (HI1.out _).mono ?_
 rintro _ _ ⟨rfl, rfl⟩
 go_wp2_with fail
 refine (HD.out _ (by (repeat' first | (with_reducible first | exact .refl _ _ | assumption | apply balloc | apply Below.drew | apply bset | refine bstep ?_ ‹_› | refine bturn ?_ ‹_› ?_) | go_size))).mono ?_
 rintro _ w1 ⟨rfl, hw1⟩
 replace hb1 := hb1.step hw1
 go_wp2_with (first | (refine wpList_store_blk hb1 rfl _ _ _ (by rfl) _ (by rfl) (by rfl) (by repeat first | with_reducible first | exact hb1 | apply Blk.alloc | apply Blk.drew | refine Blk.far ?_ (by simp <;> omega) _ | refine Blk.turn ?_ ‹_› (by omega)) (by rfl) (by kernel_rfl) (by simp [Value.oneCell']) ?_; intro wt hb1n ht))
 refine ret_blk3 rfl hb1n rfl Tryz.underlying101 rfl (by kernel_rfl) rfl ?_
 exact ⟨rfl, by (repeat' first | (with_reducible first | exact .refl _ _ | assumption | apply balloc | apply Below.drew | apply bset | refine bstep ?_ ‹_› | refine bturn ?_ ‹_› ?_) | go_size)⟩
set_option maxHeartbeats 4000000 in
theorem next_at_other (s : ByteArray) (hs : s.size ≤ 4000000) (h0 : 0 < s.size) (hv : (((s[0]'h0).toNat : Nat) : Int) = 64) (w : World) (i1 : Int) (hi1 : ¬ 0 ≤ i1) (HI1 : Hid (∀ W, Calls Tryz.prog 113 #[.string ⟨#[48, 49, 50, 51, 52, 53, 54, 55, 56, 57]⟩, .int .u8 64] W fun e w' => e = .returned (.int .i64 i1) ∧ W = w')) (h1 : 1 < s.size) (h1i : (1 : Int) < (s.size : Int)) (h2 : ¬ (((s[1]'h1).toNat : Nat) : Int) = 34) (d de : Int) (HD : Hid (∀ W, Below w.heap.size w W → Calls Tryz.prog 116 #[.string ⟨#[]⟩] W fun e w' => e = .returned (.tuple #[.int .i64 d, .int .i64 de]) ∧ Below W.heap.size W w')) :
   Calls Tryz.prog 73 #[.string s] w fun e w' => e = .returned (.tuple #[.agg #[.int .i64 0, .int .i64 0, .string ⟨#[]⟩, .int .i64 0, .int .i64 0, .int .i64 0], .int .i64 0, .int .i64 5]) ∧ Below w.heap.size w w' := by
 have hb1 := Blk.new w 101 #[.int .i64 0, .int .i64 0, .string ⟨#[]⟩, .int .i64 0, .int .i64 0, .int .i64 0]
 go_enter Tryz.func73, Tryz.ntmps73
 go_wp2_with fail
 refine (HI1.out _).mono ?_
 rintro _ _ ⟨rfl, rfl⟩
 go_wp2_with fail
 refine (HD.out _ (by (repeat' first | (with_reducible first | exact .refl _ _ | assumption | apply balloc | apply Below.drew | apply bset | refine bstep ?_ ‹_› | refine bturn ?_ ‹_› ?_) | go_size))).mono ?_
 rintro _ w1 ⟨rfl, hw1⟩
 replace hb1 := hb1.step hw1
 go_wp2_with (first | (refine wpList_store_blk hb1 rfl _ _ _ (by rfl) _ (by rfl) (by rfl) (by repeat first | with_reducible first | exact hb1 | apply Blk.alloc | apply Blk.drew | refine Blk.far ?_ (by simp <;> omega) _ | refine Blk.turn ?_ ‹_› (by omega)) (by rfl) (by kernel_rfl) (by simp [Value.oneCell']) ?_; intro wt hb1n ht))
 refine ret_blk3 rfl hb1n rfl Tryz.underlying101 rfl (by kernel_rfl) rfl ?_
 exact ⟨rfl, by (repeat' first | (with_reducible first | exact .refl _ _ | assumption | apply balloc | apply Below.drew | apply bset | refine bstep ?_ ‹_› | refine bturn ?_ ‹_› ?_) | go_size)⟩
set_option maxHeartbeats 4000000 in
theorem next_at_none (s : ByteArray) (hs : s.size ≤ 4000000) (h0 : 0 < s.size) (hv : (((s[0]'h0).toNat : Nat) : Int) = 64) (w : World) (i1 : Int) (hi1 : ¬ 0 ≤ i1) (HI1 : Hid (∀ W, Calls Tryz.prog 113 #[.string ⟨#[48, 49, 50, 51, 52, 53, 54, 55, 56, 57]⟩, .int .u8 64] W fun e w' => e = .returned (.int .i64 i1) ∧ W = w')) (h1 : 1 < s.size) (h1i : (1 : Int) < (s.size : Int)) (h2 : (((s[1]'h1).toNat : Nat) : Int) = 34) (r : ByteArray) (hr : s.extract 1 s.size = r) (HQ : Hid (∀ W, Calls Tryz.prog 115 #[.string r] W fun e w' => e = .returned (.tuple #[.string ⟨#[]⟩, .int .i64 0, .bool false]) ∧ Below W.heap.size W w')) (d de : Int) (HD : Hid (∀ W, Below w.heap.size w W → Calls Tryz.prog 116 #[.string ⟨#[]⟩] W fun e w' => e = .returned (.tuple #[.int .i64 d, .int .i64 de]) ∧ Below W.heap.size W w')) :
   Calls Tryz.prog 73 #[.string s] w fun e w' => e = .returned (.tuple #[.agg #[.int .i64 0, .int .i64 0, .string ⟨#[]⟩, .int .i64 0, .int .i64 0, .int .i64 0], .int .i64 0, .int .i64 5]) ∧ Below w.heap.size w w' := by
 have hb1 := Blk.new w 101 #[.int .i64 0, .int .i64 0, .string ⟨#[]⟩, .int .i64 0, .int .i64 0, .int .i64 0]
 go_enter Tryz.func73, Tryz.ntmps73
 go_wp2_with fail
 refine (HI1.out _).mono ?_
 rintro _ _ ⟨rfl, rfl⟩
 go_wp2_with fail
 refine (HQ.out _ ).mono ?_
 rintro _ w1 ⟨rfl, hw1⟩
 replace hb1 := hb1.step hw1
 go_wp2_with fail
 refine (HD.out _ (by (repeat' first | (with_reducible first | exact .refl _ _ | assumption | apply balloc | apply Below.drew | apply bset | refine bstep ?_ ‹_› | refine bturn ?_ ‹_› ?_) | go_size))).mono ?_
 rintro _ w2 ⟨rfl, hw2⟩
 replace hb1 := hb1.step hw2
 go_wp2_with (first | (refine wpList_store_blk hb1 rfl _ _ _ (by rfl) _ (by rfl) (by rfl) (by repeat first | with_reducible first | exact hb1 | apply Blk.alloc | apply Blk.drew | refine Blk.far ?_ (by simp <;> omega) _ | refine Blk.turn ?_ ‹_› (by omega)) (by rfl) (by kernel_rfl) (by simp [Value.oneCell']) ?_; intro wt hb1n ht))
 refine ret_blk3 rfl hb1n rfl Tryz.underlying101 rfl (by kernel_rfl) rfl ?_
 exact ⟨rfl, by (repeat' first | (with_reducible first | exact .refl _ _ | assumption | apply balloc | apply Below.drew | apply bset | refine bstep ?_ ‹_› | refine bturn ?_ ‹_› ?_) | go_size)⟩
set_option maxHeartbeats 4000000 in
theorem next_at_bad (s : ByteArray) (hs : s.size ≤ 4000000) (h0 : 0 < s.size) (hv : (((s[0]'h0).toNat : Nat) : Int) = 64) (w : World) (i1 : Int) (hi1 : ¬ 0 ≤ i1) (HI1 : Hid (∀ W, Calls Tryz.prog 113 #[.string ⟨#[48, 49, 50, 51, 52, 53, 54, 55, 56, 57]⟩, .int .u8 64] W fun e w' => e = .returned (.int .i64 i1) ∧ W = w')) (h1 : 1 < s.size) (h1i : (1 : Int) < (s.size : Int)) (h2 : (((s[1]'h1).toNat : Nat) : Int) = 34) (r : ByteArray) (hr : s.extract 1 s.size = r)  (q : ByteArray) (n : Int) (HQ : Hid (∀ W, Calls Tryz.prog 115 #[.string r] W fun e w' => e = .returned (.tuple #[.string q, .int .i64 n, .bool true]) ∧ Below W.heap.size W w')) (d de : Int) (HD : Hid (∀ W, Below w.heap.size w W → Calls Tryz.prog 116 #[.string q] W fun e w' => e = .returned (.tuple #[.int .i64 d, .int .i64 de]) ∧ Below W.heap.size W w')) (he : ¬ de = 0) :
   Calls Tryz.prog 73 #[.string s] w fun e w' => e = .returned (.tuple #[.agg #[.int .i64 0, .int .i64 0, .string ⟨#[]⟩, .int .i64 0, .int .i64 0, .int .i64 0], .int .i64 0, .int .i64 5]) ∧ Below w.heap.size w w' := by
 have hb1 := Blk.new w 101 #[.int .i64 0, .int .i64 0, .string ⟨#[]⟩, .int .i64 0, .int .i64 0, .int .i64 0]
 go_enter Tryz.func73, Tryz.ntmps73
 go_wp2_with fail
 refine (HI1.out _).mono ?_
 rintro _ _ ⟨rfl, rfl⟩
 go_wp2_with fail
 refine (HQ.out _ ).mono ?_
 rintro _ w1 ⟨rfl, hw1⟩
 replace hb1 := hb1.step hw1
 go_wp2_with fail
 refine (HD.out _ (by (repeat' first | (with_reducible first | exact .refl _ _ | assumption | apply balloc | apply Below.drew | apply bset | refine bstep ?_ ‹_› | refine bturn ?_ ‹_› ?_) | go_size))).mono ?_
 rintro _ w2 ⟨rfl, hw2⟩
 replace hb1 := hb1.step hw2
 go_wp2_with (first | (refine wpList_store_blk hb1 rfl _ _ _ (by rfl) _ (by rfl) (by rfl) (by repeat first | with_reducible first | exact hb1 | apply Blk.alloc | apply Blk.drew | refine Blk.far ?_ (by simp <;> omega) _ | refine Blk.turn ?_ ‹_› (by omega)) (by rfl) (by kernel_rfl) (by simp [Value.oneCell']) ?_; intro wt hb1n ht))
 refine ret_blk3 rfl hb1n rfl Tryz.underlying101 rfl (by kernel_rfl) rfl ?_
 exact ⟨rfl, by (repeat' first | (with_reducible first | exact .refl _ _ | assumption | apply balloc | apply Below.drew | apply bset | refine bstep ?_ ‹_› | refine bturn ?_ ‹_› ?_) | go_size)⟩
set_option maxHeartbeats 4000000 in
theorem next_at_len (s : ByteArray) (hs : s.size ≤ 4000000) (h0 : 0 < s.size) (hv : (((s[0]'h0).toNat : Nat) : Int) = 64) (w : World) (i1 : Int) (hi1 : ¬ 0 ≤ i1) (HI1 : Hid (∀ W, Calls Tryz.prog 113 #[.string ⟨#[48, 49, 50, 51, 52, 53, 54, 55, 56, 57]⟩, .int .u8 64] W fun e w' => e = .returned (.int .i64 i1) ∧ W = w')) (h1 : 1 < s.size) (h1i : (1 : Int) < (s.size : Int)) (h2 : (((s[1]'h1).toNat : Nat) : Int) = 34) (r : ByteArray) (hr : s.extract 1 s.size = r)  (q : ByteArray) (n : Int) (HQ : Hid (∀ W, Calls Tryz.prog 115 #[.string r] W fun e w' => e = .returned (.tuple #[.string q, .int .i64 n, .bool true]) ∧ Below W.heap.size W w')) (d de : Int) (HD : Hid (∀ W, Below w.heap.size w W → Calls Tryz.prog 116 #[.string q] W fun e w' => e = .returned (.tuple #[.int .i64 d, .int .i64 de]) ∧ Below W.heap.size W w')) (he : de = 0) (hn : ¬ n = 12) :
   Calls Tryz.prog 73 #[.string s] w fun e w' => e = .returned (.tuple #[.agg #[.int .i64 0, .int .i64 0, .string ⟨#[]⟩, .int .i64 0, .int .i64 0, .int .i64 0], .int .i64 0, .int .i64 5]) ∧ Below w.heap.size w w' := by
 have hb1 := Blk.new w 101 #[.int .i64 0, .int .i64 0, .string ⟨#[]⟩, .int .i64 0, .int .i64 0, .int .i64 0]
 go_enter Tryz.func73, Tryz.ntmps73
 go_wp2_with fail
 refine (HI1.out _).mono ?_
 rintro _ _ ⟨rfl, rfl⟩
 go_wp2_with fail
 refine (HQ.out _ ).mono ?_
 rintro _ w1 ⟨rfl, hw1⟩
 replace hb1 := hb1.step hw1
 go_wp2_with fail
 refine (HD.out _ (by (repeat' first | (with_reducible first | exact .refl _ _ | assumption | apply balloc | apply Below.drew | apply bset | refine bstep ?_ ‹_› | refine bturn ?_ ‹_› ?_) | go_size))).mono ?_
 rintro _ w2 ⟨rfl, hw2⟩
 replace hb1 := hb1.step hw2
 go_wp2_with (first | (refine wpList_store_blk hb1 rfl _ _ _ (by rfl) _ (by rfl) (by rfl) (by repeat first | with_reducible first | exact hb1 | apply Blk.alloc | apply Blk.drew | refine Blk.far ?_ (by simp <;> omega) _ | refine Blk.turn ?_ ‹_› (by omega)) (by rfl) (by kernel_rfl) (by simp [Value.oneCell']) ?_; intro wt hb1n ht))
 refine ret_blk3 rfl hb1n rfl Tryz.underlying101 rfl (by kernel_rfl) rfl ?_
 exact ⟨rfl, by (repeat' first | (with_reducible first | exact .refl _ _ | assumption | apply balloc | apply Below.drew | apply bset | refine bstep ?_ ‹_› | refine bturn ?_ ‹_› ?_) | go_size)⟩
set_option maxHeartbeats 4000000 in
theorem next_at_ok (s : ByteArray) (hs : s.size ≤ 4000000) (h0 : 0 < s.size) (hv : (((s[0]'h0).toNat : Nat) : Int) = 64) (w : World) (i1 : Int) (hi1 : ¬ 0 ≤ i1) (HI1 : Hid (∀ W, Calls Tryz.prog 113 #[.string ⟨#[48, 49, 50, 51, 52, 53, 54, 55, 56, 57]⟩, .int .u8 64] W fun e w' => e = .returned (.int .i64 i1) ∧ W = w')) (h1 : 1 < s.size) (h1i : (1 : Int) < (s.size : Int)) (h2 : (((s[1]'h1).toNat : Nat) : Int) = 34) (r : ByteArray) (hr : s.extract 1 s.size = r)  (q : ByteArray) (n : Int) (HQ : Hid (∀ W, Calls Tryz.prog 115 #[.string r] W fun e w' => e = .returned (.tuple #[.string q, .int .i64 n, .bool true]) ∧ Below W.heap.size W w')) (d de : Int) (HD : Hid (∀ W, Below w.heap.size w W → Calls Tryz.prog 116 #[.string q] W fun e w' => e = .returned (.tuple #[.int .i64 d, .int .i64 de]) ∧ Below W.heap.size W w')) (he : de = 0) (hn : n = 12) :
   Calls Tryz.prog 73 #[.string s] w fun e w' => e = .returned (.tuple #[.agg #[.int .i64 3, .int .i64 0, .string ⟨#[]⟩, .int .i64 0, .int .i64 0, .int .i64 d], .int .i64 13, .int .i64 0]) ∧ Below w.heap.size w w' := by
 have hb1 := Blk.new w 101 #[.int .i64 0, .int .i64 0, .string ⟨#[]⟩, .int .i64 0, .int .i64 0, .int .i64 0]
 go_enter Tryz.func73, Tryz.ntmps73
 subst hn
 go_wp2_with fail
 refine (HI1.out _).mono ?_
 rintro _ _ ⟨rfl, rfl⟩
 go_wp2_with fail
 refine (HQ.out _ ).mono ?_
 rintro _ w1 ⟨rfl, hw1⟩
 replace hb1 := hb1.step hw1
 go_wp2_with fail
 refine (HD.out _ (by (repeat' first | (with_reducible first | exact .refl _ _ | assumption | apply balloc | apply Below.drew | apply bset | refine bstep ?_ ‹_› | refine bturn ?_ ‹_› ?_) | go_size))).mono ?_
 rintro _ w2 ⟨rfl, hw2⟩
 replace hb1 := hb1.step hw2
 go_wp2_with (first | (refine wpList_store_blk hb1 rfl _ _ _ (by rfl) _ (by rfl) (by rfl) (by repeat first | with_reducible first | exact hb1 | apply Blk.alloc | apply Blk.drew | refine Blk.far ?_ (by simp <;> omega) _ | refine Blk.turn ?_ ‹_› (by omega)) (by rfl) (by kernel_rfl) (by simp [Value.oneCell']) ?_; intro wt hb1n ht))
 refine ret_blk3 rfl hb1n rfl Tryz.underlying101 rfl (by kernel_rfl) rfl ?_
 exact ⟨rfl, by (repeat' first | (with_reducible first | exact .refl _ _ | assumption | apply balloc | apply Below.drew | apply bset | refine bstep ?_ ‹_› | refine bturn ?_ ‹_› ?_) | go_size)⟩
set_option maxHeartbeats 4000000 in
theorem next_name_long (cv : Int) (s : ByteArray) (hs : s.size ≤ 4000000) (h0 : 0 < s.size) (hv : (((s[0]'h0).toNat : Nat) : Int) = cv) (w : World) (c34 : ¬ cv = 34) (c64 : ¬ cv = 64) (i1 : Int) (hi1 : ¬ 0 ≤ i1) (HI1 : Hid (∀ W, Calls Tryz.prog 113 #[.string ⟨#[48, 49, 50, 51, 52, 53, 54, 55, 56, 57]⟩, .int .u8 cv] W fun e w' => e = .returned (.int .i64 i1) ∧ W = w')) (i2 : Int) (hi2 : 0 ≤ i2) (HI2 : Hid (∀ W, Calls Tryz.prog 113 #[.string ⟨#[97, 98, 99, 100, 101, 102, 103, 104, 105, 106, 107, 108, 109, 110, 111, 112, 113, 114, 115, 116, 117, 118, 119, 120, 121, 122, 65, 66, 67, 68, 69, 70, 71, 72, 73, 74, 75, 76, 77, 78, 79, 80, 81, 82, 83, 84, 85, 86, 87, 88, 89, 90, 95]⟩, .int .u8 cv] W fun e w' => e = .returned (.int .i64 i2) ∧ W = w')) (k : Nat) (HK : Hid (∀ W, Calls Tryz.prog 72 #[.string s, .string ⟨#[97, 98, 99, 100, 101, 102, 103, 104, 105, 106, 107, 108, 109, 110, 111, 112, 113, 114, 115, 116, 117, 118, 119, 120, 121, 122, 65, 66, 67, 68, 69, 70, 71, 72, 73, 74, 75, 76, 77, 78, 79, 80, 81, 82, 83, 84, 85, 86, 87, 88, 89, 90, 95, 48, 49, 50, 51, 52, 53, 54, 55, 56, 57]⟩] W fun e w' => e = .returned (.int .i64 (k : Int)) ∧ Below W.heap.size W w')) (hk : (32 : Int) < (k : Int)) :
   Calls Tryz.prog 73 #[.string s] w fun e w' => e = .returned (.tuple #[.agg #[.int .i64 0, .int .i64 0, .string ⟨#[]⟩, .int .i64 0, .int .i64 0, .int .i64 0], .int .i64 0, .int .i64 5]) ∧ Below w.heap.size w w' := by
 have hb1 := Blk.new w 101 #[.int .i64 0, .int .i64 0, .string ⟨#[]⟩, .int .i64 0, .int .i64 0, .int .i64 0]
 go_enter Tryz.func73, Tryz.ntmps73
 go_wp2_with fail
 refine (HI1.out _).mono ?_
 rintro _ _ ⟨rfl, rfl⟩
 go_wp2_with fail
 refine (HI2.out _).mono ?_
 rintro _ _ ⟨rfl, rfl⟩
 go_wp2_with fail
 refine (HK.out _ ).mono ?_
 rintro _ w1 ⟨rfl, hw1⟩
 replace hb1 := hb1.step hw1
 go_wp2_with (first | (refine wpList_store_blk hb1 rfl _ _ _ (by rfl) _ (by rfl) (by rfl) (by repeat first | with_reducible first | exact hb1 | apply Blk.alloc | apply Blk.drew | refine Blk.far ?_ (by simp <;> omega) _ | refine Blk.turn ?_ ‹_› (by omega)) (by rfl) (by kernel_rfl) (by simp [Value.oneCell']) ?_; intro wt hb1n ht))
 refine ret_blk3 rfl hb1n rfl Tryz.underlying101 rfl (by kernel_rfl) rfl ?_
 exact ⟨rfl, by (repeat' first | (with_reducible first | exact .refl _ _ | assumption | apply balloc | apply Below.drew | apply bset | refine bstep ?_ ‹_› | refine bturn ?_ ‹_› ?_) | go_size)⟩
set_option maxHeartbeats 4000000 in
theorem next_name_ok (cv : Int) (s : ByteArray) (hs : s.size ≤ 4000000) (h0 : 0 < s.size) (hv : (((s[0]'h0).toNat : Nat) : Int) = cv) (w : World) (c34 : ¬ cv = 34) (c64 : ¬ cv = 64) (i1 : Int) (hi1 : ¬ 0 ≤ i1) (HI1 : Hid (∀ W, Calls Tryz.prog 113 #[.string ⟨#[48, 49, 50, 51, 52, 53, 54, 55, 56, 57]⟩, .int .u8 cv] W fun e w' => e = .returned (.int .i64 i1) ∧ W = w')) (i2 : Int) (hi2 : 0 ≤ i2) (HI2 : Hid (∀ W, Calls Tryz.prog 113 #[.string ⟨#[97, 98, 99, 100, 101, 102, 103, 104, 105, 106, 107, 108, 109, 110, 111, 112, 113, 114, 115, 116, 117, 118, 119, 120, 121, 122, 65, 66, 67, 68, 69, 70, 71, 72, 73, 74, 75, 76, 77, 78, 79, 80, 81, 82, 83, 84, 85, 86, 87, 88, 89, 90, 95]⟩, .int .u8 cv] W fun e w' => e = .returned (.int .i64 i2) ∧ W = w')) (k : Nat) (HK : Hid (∀ W, Calls Tryz.prog 72 #[.string s, .string ⟨#[97, 98, 99, 100, 101, 102, 103, 104, 105, 106, 107, 108, 109, 110, 111, 112, 113, 114, 115, 116, 117, 118, 119, 120, 121, 122, 65, 66, 67, 68, 69, 70, 71, 72, 73, 74, 75, 76, 77, 78, 79, 80, 81, 82, 83, 84, 85, 86, 87, 88, 89, 90, 95, 48, 49, 50, 51, 52, 53, 54, 55, 56, 57]⟩] W fun e w' => e = .returned (.int .i64 (k : Int)) ∧ Below W.heap.size W w')) (hk : ¬ (32 : Int) < (k : Int)) (hkl : (k : Int) ≤ (s.size : Int)) (p : ByteArray) (hp : s.extract 0 k = p) :
   Calls Tryz.prog 73 #[.string s] w fun e w' => e = .returned (.tuple #[.agg #[.int .i64 4, .int .i64 0, .string p, .int .i64 0, .int .i64 0, .int .i64 0], .int .i64 (k : Int), .int .i64 0]) ∧ Below w.heap.size w w' := by
 have hb1 := Blk.new w 101 #[.int .i64 0, .int .i64 0, .string ⟨#[]⟩, .int .i64 0, .int .i64 0, .int .i64 0]
 go_enter Tryz.func73, Tryz.ntmps73
 go_wp2_with fail
 refine (HI1.out _).mono ?_
 rintro _ _ ⟨rfl, rfl⟩
 go_wp2_with fail
 refine (HI2.out _).mono ?_
 rintro _ _ ⟨rfl, rfl⟩
 go_wp2_with fail
 refine (HK.out _ ).mono ?_
 rintro _ w1 ⟨rfl, hw1⟩
 replace hb1 := hb1.step hw1
 go_wp2_with (first | (refine wpList_store_blk hb1 rfl _ _ _ (by rfl) _ (by rfl) (by rfl) (by repeat first | with_reducible first | exact hb1 | apply Blk.alloc | apply Blk.drew | refine Blk.far ?_ (by simp <;> omega) _ | refine Blk.turn ?_ ‹_› (by omega)) (by rfl) (by kernel_rfl) (by simp [Value.oneCell']) ?_; intro wt hb1n ht))
 refine ret_blk3 rfl hb1n rfl Tryz.underlying101 rfl (by kernel_rfl) rfl ?_
 exact ⟨rfl, by (repeat' first | (with_reducible first | exact .refl _ _ | assumption | apply balloc | apply Below.drew | apply bset | refine bstep ?_ ‹_› | refine bturn ?_ ‹_› ?_) | go_size)⟩
end Go.Proofs.YtapilekangmcoaaGreatDoor
namespace Go.Proofs.YtapilekangmcoaaGreatDoor
open Go.RowKit
/-- Texts in memory. -/
def SS (w : World) (g : Nat) (L : List Bs) : Prop := ∀ i l, L[i]? = some l → w.cell? ⟨g, i, none⟩ = some (.string (bs l))
theorem SS.step {w w' : World} {g : Nat} {L : List Bs} (h : SS w g L) (hb : Below w.heap.size w w') : SS w' g L := fun i l hl => keep1 hb (h i l hl)
theorem SS.of_blk {w : World} {g : Nat} {T : TypeId} {L : List Bs} (h : Blk w g T (L.map fun l => Value.string (bs l)).toArray) : SS w g L := fun i l hl => by
 rw [h.cell, List.getElem?_toArray, List.getElem?_map, hl]
 rfl
theorem signs_any (w : World) : Calls Tryz.prog 117 #[] w fun e w' => (∃ g, e = .returned (.slice (some ⟨g, 0, none⟩) 16 16) ∧ SS w' g signsL) ∧ Below w.heap.size w w' := by
 go_enter Tryz.func117, Tryz.ntmps117
 go_wp2_with fail
 go_returns
 exact ⟨⟨_, rfl, SS.of_blk (Blk.new _ _ _)⟩, by (repeat' first | (with_reducible first | exact .refl _ _ | assumption | apply balloc | apply Below.drew | apply bset | refine bstep ?_ ‹_› | refine bturn ?_ ‹_› ?_) | go_size)⟩
theorem find_stop {L : List Bs} {k : Nat} {g : Bs} {p : Bs → Bool} (h : L[k]? = some g) (hp : p g = true) : (L.drop k).find? p = some g := by
 obtain ⟨hk, rfl⟩ := List.getElem?_eq_some_iff.1 h
 rw [List.drop_eq_getElem_cons hk, List.find?_cons, hp]
theorem find_go {L : List Bs} {k : Nat} {g : Bs} {p : Bs → Bool} (h : L[k]? = some g) (hp : p g = false) : (L.drop k).find? p = (L.drop (k + 1)).find? p := by
 obtain ⟨hk, rfl⟩ := List.getElem?_eq_some_iff.1 h
 rw [List.drop_eq_getElem_cons hk, List.find?_cons, hp]
theorem hasp_lit (s : ByteArray) (l g : Bs) (hl : s.data.toList = l) (b : Bool) (hb : g.isPrefixOf l = b) (w : World) :
   Calls Tryz.prog 118 #[.string s, .string (bs g)] w fun e w' => e = .returned (.bool b) ∧ w = w' := by
 refine (Tryz.strings_HasPrefix s (bs g) w).mono ?_
 rintro _ w' ⟨rfl, rfl⟩
 refine ⟨?_, rfl⟩
 rw [hl, ← hb]
 rfl
set_option maxHeartbeats 4000000 in
theorem next_sign (cv : Int) (s : ByteArray) (hs : s.size ≤ 4000000) (h0 : 0 < s.size) (hv : (((s[0]'h0).toNat : Nat) : Int) = cv) (w : World) (c34 : ¬ cv = 34) (c64 : ¬ cv = 64) (i1 : Int) (hi1 : ¬ 0 ≤ i1) (HI1 : Hid (∀ W, Calls Tryz.prog 113 #[.string ⟨#[48, 49, 50, 51, 52, 53, 54, 55, 56, 57]⟩, .int .u8 cv] W fun e w' => e = .returned (.int .i64 i1) ∧ W = w')) (i2 : Int) (hi2 : ¬ 0 ≤ i2) (HI2 : Hid (∀ W, Calls Tryz.prog 113 #[.string ⟨#[97, 98, 99, 100, 101, 102, 103, 104, 105, 106, 107, 108, 109, 110, 111, 112, 113, 114, 115, 116, 117, 118, 119, 120, 121, 122, 65, 66, 67, 68, 69, 70, 71, 72, 73, 74, 75, 76, 77, 78, 79, 80, 81, 82, 83, 84, 85, 86, 87, 88, 89, 90, 95]⟩, .int .u8 cv] W fun e w' => e = .returned (.int .i64 i2) ∧ W = w')) (l : Bs) (hl : s.data.toList = l) :
   Calls Tryz.prog 73 #[.string s] w fun e w' => e = .returned (.tuple #[tokV (signS l).t, .int .i64 ((signS l).n : Int), .int .i64 (signS l).e]) ∧ Below w.heap.size w w' := by
 have hb1 := Blk.new w 101 #[.int .i64 0, .int .i64 0, .string ⟨#[]⟩, .int .i64 0, .int .i64 0, .int .i64 0]
 have HSg := Lib.hid (fun W => signs_any W)
 have HP := Lib.hid (fun g b hb W => hasp_lit s l g hl b hb W)
 obtain ⟨f, hf⟩ : ∃ f, signsL.find? (fun g => g.isPrefixOf l) = f := ⟨_, rfl⟩
 have hR1 : ∀ q, f = some q → signS l = ⟨⟨5, 0, q, 0, 0, 0⟩, q.length, 0⟩ := fun q h => by unfold signS; rw [hf, h]
 have hR0 : f = none → signS l = bad := fun h => by unfold signS; rw [hf, h]
 have HR := Lib.hid (And.intro hR1 hR0)
 have HF := Lib.hid hf
 clear hR1 hR0 hf hl
 go_enter Tryz.func73, Tryz.ntmps73
 go_wp2_with fail
 refine (HI1.out _).mono ?_
 rintro _ _ ⟨rfl, rfl⟩
 go_wp2_with fail
 refine (HI2.out _).mono ?_
 rintro _ _ ⟨rfl, rfl⟩
 go_wp2_with fail
 refine (HSg.out _).mono ?_
 rintro _ w1 ⟨⟨g, rfl, hS⟩, hw1⟩
 replace hb1 := hb1.step hw1
 have hbl : Below w.heap.size w w1 := by (repeat' first | (with_reducible first | exact .refl _ _ | assumption | apply balloc | apply Below.drew | apply bset | refine bstep ?_ ‹_› | refine bturn ?_ ‹_› ?_) | go_size)
 clear HI1 HI2 HSg
 go_wp2_with fail
 go_loopw [107, 16] (fun i _ wr => ∃ k : Nat, k ≤ 16 ∧ i = .int .i64 (k : Int) ∧ SS wr g signsL ∧ Blk wr w.heap.size 101 #[.int .i64 0, .int .i64 0, .string ⟨#[]⟩, .int .i64 0, .int .i64 0, .int .i64 0] ∧ Below w.heap.size w wr ∧ Hid ((signsL.drop k).find? (fun g => g.isPrefixOf l) = f)) (fun i _ _ => 16 - (intOf i).toNat)
 case atStart => exact ⟨0, by omega, rfl, hS, hb1, hbl, HF⟩
 case round =>
   obtain ⟨k, hk, rfl, hS2, hB, hbr, HQ⟩ := hrel
   by_cases hlt : k < 16
   · obtain ⟨q, hq⟩ : ∃ q, signsL[k]? = some q := ⟨signsL[k]'hlt, List.getElem?_eq_getElem hlt⟩
     have hc := hS2 k q hq
     have Hq := Lib.hid hq
     have HS2 := Lib.hid hS2
     clear hS2 hq
     cases hb : q.isPrefixOf l with
     | true =>
       have hfq : f = some q := by rw [← HQ.out]; exact find_stop Hq.out hb
       have hR := HR.out.1 q hfq
       have HR2 := Lib.hid hR
       have Hb := Lib.hid hb
       have Hsz := Lib.hid (bs_size q)
       clear hR hfq hb
       go_wp2_with fail
       refine (HP.out q true Hb.out _).mono ?_
       rintro _ _ ⟨rfl, rfl⟩
       go_wp2_with (first | (refine wpList_store_blk hB rfl _ _ _ (by rfl) _ (by rfl) (by rfl) (by repeat first | with_reducible first | exact hB | apply Blk.alloc | apply Blk.drew | refine Blk.far ?_ (by simp <;> omega) _ | refine Blk.turn ?_ ‹_› (by omega)) (by rfl) (by kernel_rfl) (by simp [Value.oneCell']) ?_; intro wt hBn ht))
       refine ret_blk3 rfl hBn rfl Tryz.underlying101 rfl (by kernel_rfl) rfl ?_
       exact ⟨by rw [HR2.out]; show _ = Ending.returned (Value.tuple #[.agg _, .int .i64 ((q.length : Nat) : Int), _]); rw [← Hsz.out]; rfl, by (repeat' first | (with_reducible first | exact .refl _ _ | assumption | apply balloc | apply Below.drew | apply bset | refine bstep ?_ ‹_› | refine bturn ?_ ‹_› ?_) | go_size)⟩
     | false =>
       have Hb := Lib.hid hb
       have HQ2 : Hid ((signsL.drop (k + 1)).find? (fun g => g.isPrefixOf l) = f) := Lib.hid (by rw [← HQ.out]; exact (find_go Hq.out hb).symm)
       clear hb
       go_wp2_with fail
       refine (HP.out q false Hb.out _).mono ?_
       rintro _ _ ⟨rfl, rfl⟩
       go_wp2_with fail
       go_roundw
       case rel => exact ⟨k + 1, by omega, by go_num, HS2.out, hB, hbr, HQ2⟩
       case measure => simp [intOf]; omega
   · obtain rfl : k = 16 := by omega
     have hfq : f = none := by rw [← HQ.out]; rfl
     have hR := HR.out.2 hfq
     have HR2 := Lib.hid hR
     clear hR hfq hS2
     go_wp2_with (first | (refine wpList_store_blk hB rfl _ _ _ (by rfl) _ (by rfl) (by rfl) (by repeat first | with_reducible first | exact hB | apply Blk.alloc | apply Blk.drew | refine Blk.far ?_ (by simp <;> omega) _ | refine Blk.turn ?_ ‹_› (by omega)) (by rfl) (by kernel_rfl) (by simp [Value.oneCell']) ?_; intro wt hBn ht))
     refine ret_blk3 rfl hBn rfl Tryz.underlying101 rfl (by kernel_rfl) rfl ?_
     exact ⟨by rw [HR2.out]; rfl, by (repeat' first | (with_reducible first | exact .refl _ _ | assumption | apply balloc | apply Below.drew | apply bset | refine bstep ?_ ‹_› | refine bturn ?_ ‹_› ?_) | go_size)⟩
end Go.Proofs.YtapilekangmcoaaGreatDoor
namespace Go.Proofs.YtapilekangmcoaaGreatDoor
open Go.RowKit
theorem idx_lit (S : ByteArray) (L : Bs) (hS : S.data.toList = L) (c : UInt8) (b : Bool) (hb : decide (0 ≤ Lib.indexByte L c) = b) :
   ∃ i : Int, decide (0 ≤ i) = b ∧ ∀ W, Calls Tryz.prog 113 #[.string S, .int .u8 ((c.toNat : Nat) : Int)] W fun e w' => e = .returned (.int .i64 i) ∧ W = w' := by
 refine ⟨Lib.indexByte L c, hb, fun W => ?_⟩
 refine (Tryz.strings_IndexByte S ((c.toNat : Nat) : Int) W).mono ?_
 rintro _ w' ⟨rfl, rfl⟩
 refine ⟨?_, rfl⟩
 rw [hS, Int.toNat_natCast]
 congr 3
 exact UInt8.ofNat_toNat
theorem qS_len : ∀ (k : Nat) (l : Bs) (p : Bs × Nat), l.length ≤ k → qS l = some p → p.1.length ≤ l.length
 | _, [], _, _, h => by simp [qS] at h
 | 0, c :: r, _, hk, _ => by simp at hk
 | k + 1, c :: r, p, hk, h => by
   rw [qS_cons] at h
   rw [List.length_cons] at hk ⊢
   by_cases h1 : c = 34
   · rw [if_pos h1] at h; cases h; simp
   · rw [if_neg h1] at h
     by_cases h2 : c = 92
     · rw [if_pos h2] at h
       cases r with
       | nil => cases h
       | cons d r2 =>
         simp only at h
         rw [List.length_cons] at hk ⊢
         by_cases h3 : d = 34 ∨ d = 92
         · rw [if_pos h3] at h
           cases hq : qS r2 with
           | none => rw [hq] at h; cases h
           | some q =>
             rw [hq] at h
             have := qS_len k r2 q (by omega) hq
             cases h
             simp only [List.length_cons]
             omega
         · rw [if_neg h3] at h; cases h
     · rw [if_neg h2] at h
       cases hq : qS r with
       | none => rw [hq] at h; cases h
       | some q =>
         rw [hq] at h
         have := qS_len k r q (by omega) hq
         cases h
         simp only [List.length_cons]
         omega
theorem nextS_cons (x : Lx) (c : UInt8) (r : Bs) : nextS x (c :: r) = if figs.contains c = true then numS x (c :: r) else if c = 34 then strS x r else if c = 64 then dateS x r else if lets.contains c = true then nameS (c :: r) else signS (c :: r) := rfl
theorem next_any (x : Lx) (m : Int) (H : LxOK x m) (s : ByteArray) (l : Bs) (hl : s.data.toList = l) (hs : s.size ≤ 4000000) (h0 : 0 < s.size) (w : World) (hw : OKW m w) :
   Calls Tryz.prog 73 #[.string s] w fun e w' => e = .returned (.tuple #[tokV (nextS x l).t, .int .i64 ((nextS x l).n : Int), .int .i64 (nextS x l).e]) ∧ Below w.heap.size w w' := by
 have hll : l.length = s.size := by rw [← hl, size_list]
 match l with
 | [] => rw [List.length_nil] at hll; omega
 | c :: r =>
   have hc : s[0]'h0 = c := head_of hl h0
   have hv : (((s[0]'h0).toNat : Nat) : Int) = ((c.toNat : Nat) : Int) := by rw [hc]
   have hr : s.data.toList.drop 1 = r := by rw [hl]; rfl
   have hrl : r.length + 1 = s.size := by rw [← hll, List.length_cons]
   obtain ⟨i1, hi1, HI1⟩ := idx_lit ⟨#[48, 49, 50, 51, 52, 53, 54, 55, 56, 57]⟩ figs rfl c _ (indexByte_figs c)
   rw [nextS_cons]
   by_cases g1 : figs.contains c = true
   · rw [if_pos g1]
     rw [g1] at hi1
     exact next_num _ s hs h0 hv w i1 (of_decide_eq_true hi1) (Lib.hid HI1) _ _ _ _ _ _ _ _ (Lib.hid (fun W hb => number_any x m H s (c :: r) hl hs W (hw.step hb)))
   · rw [if_neg g1]
     have g1' : figs.contains c = false := by simpa using g1
     rw [g1'] at hi1
     have hn1 : ¬ 0 ≤ i1 := of_decide_eq_false hi1
     by_cases g2 : c = 34
     · rw [if_pos g2]
       have hc34 : ((c.toNat : Nat) : Int) = 34 := by rw [g2]; rfl
       rw [hc34] at hv HI1
       have HQ := fun R hR W => quoted_any s h0 hs R hR W
       rw [hr] at HQ
       unfold strS
       cases hq : qS r with
       | none =>
         rw [hq] at HQ
         exact next_str_none s hs h0 hv w i1 hn1 (Lib.hid HI1) (Lib.hid (HQ _ rfl))
       | some p =>
         rw [hq] at HQ
         have hsz : (bs p.1).size = p.1.length := bs_size _
         simp only
         by_cases hbig : 256 < p.1.length
         · rw [if_pos (.inl hbig)]
           exact next_str_long s hs h0 hv w i1 hn1 (Lib.hid HI1) (bs p.1) _ (by omega) (Lib.hid (HQ _ rfl))
         · have HG := fun W (hb : Below w.heap.size w W) => H.G (bs p.1) p.1 rfl (by omega) W (hw.step hb)
           cases hg : x.G p.1 with
           | false =>
             rw [if_pos (.inr rfl)]
             rw [hg] at HG
             exact next_str_bad s hs h0 hv w i1 hn1 (Lib.hid HI1) (bs p.1) _ (by omega) (Lib.hid (HQ _ rfl)) (Lib.hid HG)
           | true =>
             rw [if_neg (by rintro (h | h); · exact hbig h
                            · cases h)]
             rw [hg] at HG
             exact next_str_ok s hs h0 hv w i1 hn1 (Lib.hid HI1) (bs p.1) _ (by omega) (Lib.hid (HQ _ rfl)) (Lib.hid HG)
     · rw [if_neg g2]
       have c34 : ¬ ((c.toNat : Nat) : Int) = 34 := fun e => g2 (UInt8.toNat_inj.1 (by rw [show (34 : UInt8).toNat = 34 from rfl]; omega))
       by_cases g3 : c = 64
       · rw [if_pos g3]
         have hc64 : ((c.toNat : Nat) : Int) = 64 := by rw [g3]; rfl
         rw [hc64] at hv HI1
         have HD0 := fun W (hb : Below w.heap.size w W) => H.D ⟨#[]⟩ [] rfl (by decide) W (hw.step hb)
         unfold dateS quoD
         match r with
         | [] => exact next_at_short s hs h0 hv w i1 hn1 (Lib.hid HI1) (by rw [← hll]; simp) _ _ (Lib.hid HD0)
         | d :: r2 =>
           rw [List.length_cons] at hrl
           have h1 : 1 < s.size := by omega
           have hd : s[1]'h1 = d := by
             have := byte_drop s 1 h1
             rw [hr] at this
             exact (List.cons.inj this).1.symm
           by_cases g34 : d = 34
           · rw [if_pos (by rw [g34]; rfl)]
             have h2 : (((s[1]'h1).toNat : Nat) : Int) = 34 := by rw [hd, g34]; rfl
             obtain ⟨rB, hrB⟩ : ∃ rB, s.extract 1 s.size = rB := ⟨_, rfl⟩
             have hrBl : rB.data.toList = d :: r2 := by rw [← hrB, ext_drop, hr]
             have hrBs : rB.size = s.size - 1 := by rw [← hrB, ext_size]
             have HQ := fun R hR W => quoted_any rB (by omega) (by omega) R hR W
             rw [hrBl, show (d :: r2).drop 1 = r2 from rfl] at HQ
             show Calls Tryz.prog 73 #[.string s] w fun e w' => e = .returned (.tuple #[tokV (match qS r2 with
               | none => bad
               | some p => if ¬ (x.D p.1).2 = 0 ∨ ¬ p.2 = 11 then bad else ⟨⟨3, 0, [], 0, 0, (x.D p.1).1⟩, 13, 0⟩).t, .int .i64 (((match qS r2 with
               | none => bad
               | some p => if ¬ (x.D p.1).2 = 0 ∨ ¬ p.2 = 11 then bad else ⟨⟨3, 0, [], 0, 0, (x.D p.1).1⟩, 13, 0⟩).n : Nat) : Int), .int .i64 (match qS r2 with
               | none => bad
               | some p => if ¬ (x.D p.1).2 = 0 ∨ ¬ p.2 = 11 then bad else ⟨⟨3, 0, [], 0, 0, (x.D p.1).1⟩, 13, 0⟩).e]) ∧ Below w.heap.size w w'
             cases hq : qS r2 with
             | none =>
               rw [hq] at HQ
               exact next_at_none s hs h0 hv w i1 hn1 (Lib.hid HI1) h1 (by omega) h2 rB hrB (Lib.hid (HQ _ rfl)) _ _ (Lib.hid HD0)
             | some p =>
               rw [hq] at HQ
               have hpl := qS_len r2.length r2 p (Nat.le_refl _) hq
               have HD := fun W (hb : Below w.heap.size w W) => H.D (bs p.1) p.1 rfl (by omega) W (hw.step hb)
               simp only
               by_cases he : (x.D p.1).2 = 0
               · by_cases hn : p.2 = 11
                 · rw [if_neg (by rintro (h | h); · exact h he
                                  · exact h hn)]
                   exact next_at_ok s hs h0 hv w i1 hn1 (Lib.hid HI1) h1 (by omega) h2 rB hrB (bs p.1) _ (Lib.hid (HQ _ rfl)) _ _ (Lib.hid HD) he (by rw [hn]; rfl)
                 · rw [if_pos (.inr hn)]
                   exact next_at_len s hs h0 hv w i1 hn1 (Lib.hid HI1) h1 (by omega) h2 rB hrB (bs p.1) _ (Lib.hid (HQ _ rfl)) _ _ (Lib.hid HD) he (by omega)
               · rw [if_pos (.inl he)]
                 exact next_at_bad s hs h0 hv w i1 hn1 (Lib.hid HI1) h1 (by omega) h2 rB hrB (bs p.1) _ (Lib.hid (HQ _ rfl)) _ _ (Lib.hid HD) he
           · have e34 : ¬ (d :: r2).head? = some 34 := fun e => g34 (Option.some.inj e)
             rw [if_neg e34]
             have h2 : ¬ (((s[1]'h1).toNat : Nat) : Int) = 34 := by
               rw [hd]
               exact fun e => g34 (UInt8.toNat_inj.1 (by rw [show (34 : UInt8).toNat = 34 from rfl]; omega))
             exact next_at_other s hs h0 hv w i1 hn1 (Lib.hid HI1) h1 (by omega) h2 _ _ (Lib.hid HD0)
       · rw [if_neg g3]
         have c64 : ¬ ((c.toNat : Nat) : Int) = 64 := fun e => g3 (UInt8.toNat_inj.1 (by rw [show (64 : UInt8).toNat = 64 from rfl]; omega))
         obtain ⟨i2, hi2, HI2⟩ := idx_lit ⟨#[97, 98, 99, 100, 101, 102, 103, 104, 105, 106, 107, 108, 109, 110, 111, 112, 113, 114, 115, 116, 117, 118, 119, 120, 121, 122, 65, 66, 67, 68, 69, 70, 71, 72, 73, 74, 75, 76, 77, 78, 79, 80, 81, 82, 83, 84, 85, 86, 87, 88, 89, 90, 95]⟩ lets rfl c _ (indexByte_lets c)
         by_cases g4 : lets.contains c = true
         · rw [if_pos g4]
           rw [g4] at hi2
           obtain ⟨k, hk⟩ : ∃ k, runS (lets ++ figs) (c :: r) = k := ⟨_, rfl⟩
           have HK := fun W => run_any s ⟨#[97, 98, 99, 100, 101, 102, 103, 104, 105, 106, 107, 108, 109, 110, 111, 112, 113, 114, 115, 116, 117, 118, 119, 120, 121, 122, 65, 66, 67, 68, 69, 70, 71, 72, 73, 74, 75, 76, 77, 78, 79, 80, 81, 82, 83, 84, 85, 86, 87, 88, 89, 90, 95, 48, 49, 50, 51, 52, 53, 54, 55, 56, 57]⟩ k (by omega) (by decide) (by decide) (by rw [hl]; exact hk) W
           unfold nameS
           rw [hk]
           by_cases hk32 : 32 < k
           · rw [if_pos hk32]
             exact next_name_long _ s hs h0 hv w c34 c64 i1 hn1 (Lib.hid HI1) i2 (of_decide_eq_true hi2) (Lib.hid HI2) k (Lib.hid HK) (by omega)
           · rw [if_neg hk32]
             have hkl : k ≤ s.size := by rw [← hk, ← hll]; exact runS_le _ _
             have hp : s.extract 0 k = bs ((c :: r).take k) := by
               apply ByteArray.ext
               apply Array.toList_inj.1
               rw [ext_take, hl]
               rfl
             exact next_name_ok _ s hs h0 hv w c34 c64 i1 hn1 (Lib.hid HI1) i2 (of_decide_eq_true hi2) (Lib.hid HI2) k (Lib.hid HK) (by omega) (by omega) _ hp
         · rw [if_neg g4]
           have g4' : lets.contains c = false := by simpa using g4
           rw [g4'] at hi2
           exact next_sign _ s hs h0 hv w c34 c64 i1 hn1 (Lib.hid HI1) i2 (of_decide_eq_false hi2) (Lib.hid HI2) (c :: r) hl
end Go.Proofs.YtapilekangmcoaaGreatDoor
namespace Go.Proofs.YtapilekangmcoaaGreatDoor
open Go.RowKit Go.Shelf
def cellsT (t : Tk) : List Value := [.int .i64 t.k, .int .i64 (t.a : Int), .string (bs t.t), .int .i64 t.n, .int .i64 t.s, .int .i64 t.m]
def cellsL (L : List Tk) : List Value := L.flatMap cellsT
theorem cellsL_app (L M : List Tk) : cellsL (L ++ M) = cellsL L ++ cellsL M := by simp [cellsL]
theorem cellsL_get : ∀ (L : List Tk) (i : Nat) (t : Tk) (j : Nat) (v : Value), L[i]? = some t → (cellsT t)[j]? = some v → (cellsL L)[i * 6 + j]? = some v
 | [], i, t, j, v, h, _ => by simp at h
 | s :: L, 0, t, j, v, h, hj => by
   obtain rfl : s = t := by simpa using h
   have hl : j < (cellsT s).length := (List.getElem?_eq_some_iff.1 hj).1
   show (cellsT s ++ cellsL L)[0 * 6 + j]? = some v
   rw [Nat.zero_mul, Nat.zero_add, List.getElem?_append_left hl]
   exact hj
 | s :: L, i + 1, t, j, v, h, hj => by
   have hs : (cellsT s).length = 6 := rfl
   show (cellsT s ++ cellsL L)[(i + 1) * 6 + j]? = some v
   rw [List.getElem?_append_right (by omega), hs, show (i + 1) * 6 + j - 6 = i * 6 + j by omega]
   exact cellsL_get L i t j v (by simpa using h) hj
/-- Tokens in memory. -/
def TM (w : World) (A : Option Addr) (L : List Tk) : Prop := ∀ i t, L[i]? = some t → ∃ g o, A = some ⟨g, o, none⟩ ∧ ∀ j v, (cellsT t)[j]? = some v → w.cell? ⟨g, o + i * 6 + j, none⟩ = some v
theorem TM.step {w w' : World} {A : Option Addr} {L : List Tk} (h : TM w A L) (hb : Below w.heap.size w w') : TM w' A L := fun i t ht => by
 obtain ⟨g, o, e, hc⟩ := h i t ht
 exact ⟨g, o, e, fun j v hj => keep1 hb (hc j v hj)⟩
theorem TM.nil (w : World) (A : Option Addr) : TM w A [] := fun i t h => by simp at h
theorem infoTok : (Tryz.prog.info? 101).map (fun i => (i.zero, i.size, i.bytes)) = some (some (.agg #[.int .i64 0, .int .i64 0, .string ⟨#[]⟩, .int .i64 0, .int .i64 0, .int .i64 0]), 6, 56) := by kernel_rfl
theorem run_white (s : ByteArray) (k : Nat) (hs : s.size ≤ 4000000) (hk : runS whites s.data.toList = k) (w : World) :
   Calls Tryz.prog 72 #[.string s, .string ⟨#[32, 9, 13, 10]⟩] w fun e w' => e = .returned (.int .i64 (k : Int)) ∧ Below w.heap.size w w' :=
 run_any s ⟨#[32, 9, 13, 10]⟩ k (by omega) (by decide) (by decide) hk w
theorem own_tm {w : World} {base n : Nat} {v : Value} {L : List Tk} (h : w.ownsRow base 101 6 v n (cellsL L)) (hn : n = L.length) : ∃ A c, v = .slice A n c ∧ TM w A L ∧ n ≤ c ∧ c ≤ maxLen := by
 rcases h.2 with ⟨hv, h0⟩ | ⟨g, cap, cur, hv, _, _, hnc, hcm, _⟩
 · have hL : L = [] := List.eq_nil_of_length_eq_zero (by omega)
   subst hL
   exact ⟨none, 0, by rw [hv, h0], TM.nil _ _, by omega, by unfold maxLen; omega⟩
 · refine ⟨_, _, hv, fun i t ht => ⟨g, 0, rfl, fun j u hj => ?_⟩, hnc, hcm⟩
   have := h.cells (g := g) (by rw [hv]; rfl) (i * 6 + j) u (cellsL_get L i t j u ht hj)
   rw [Nat.zero_add]
   have e : (⟨g, 0, none⟩ : Addr).add (i * 6 + j) = ⟨g, i * 6 + j, none⟩ := by unfold Addr.add; split <;> simp_all
   rw [e] at this
   exact this
theorem own_below {w w' : World} {base : Nat} {e : TypeId} {size : Nat} {v : Value} {n : Nat} {xs : List Value} (h : w.ownsRow base e size v n xs) (hb : Below w.heap.size w w') : w'.ownsRow base e size v n xs := by
 refine ⟨h.1, ?_⟩
 rcases h.2 with h0 | ⟨g, cap, cur, hv, h1, h2, h3⟩
 · exact .inl h0
 · exact .inr ⟨g, cap, cur, hv, h1, (hb.block g (Array.getElem?_eq_some_iff.1 h2).1).trans h2, h3⟩
theorem tokens_any (x : Lx) (m : Int) (H : LxOK x m) (s : ByteArray) (l : Bs) (hl : s.data.toList = l) (hs : s.size ≤ 65536) (w : World) (hw : OKW m w) :
   Calls Tryz.prog 46 #[.string s] w fun e w' => (∃ A c, e = .returned (.tuple #[.slice A (toksS x l).l.length c, .int .i64 ((toksS x l).n : Int), .int .i64 (toksS x l).e]) ∧ TM w' A (toksS x l).l ∧ (toksS x l).l.length ≤ c ∧ c ≤ maxLen) ∧ Below w.heap.size w w' := by
 have hll : l.length = s.size := by rw [← hl, size_list]
 obtain ⟨i0, hi, hz0, hz1, hz2⟩ := info_parts infoTok
 obtain ⟨T, hT⟩ : ∃ T, toksS x l = T := ⟨_, rfl⟩
 rw [hT]
 have hT2 : toksA x (l.length + 1) 0 l [] = T := by rw [← hT]; unfold toksS; rw [if_neg (by omega)]
 obtain ⟨k, hk⟩ : ∃ k, runS whites l = k := ⟨_, rfl⟩
 have hkl : k ≤ s.size := by rw [← hk, ← hll]; exact runS_le _ _
 have H1 := Lib.hid (fun W => run_white s k (by omega) (by rw [hl, hk]) W)
 have HW := Lib.hid (fun W (hb : Below w.heap.size w W) => hw.step hb)
 have Hl := Lib.hid hl
 have HT2 := Lib.hid hT2
 have Hk := Lib.hid hk
 have HX := Lib.hid H
 have hbig : ¬ (65536 : Int) < (s.size : Int) := by omega
 clear hT hT2 hk hl H hw
 go_enter Tryz.func46, Tryz.ntmps46
 go_wp2_with fail
 refine (H1.out _).mono ?_
 rintro _ w1 ⟨rfl, hw1⟩
 go_wp2_with fail
 go_loopw [5, 6, 7, 8, 9] (fun out at_ _ _ _ wr => ∃ (f a k p : Nat) (acc : List Tk), at_ = .int .i64 (p : Int) ∧ p ≤ s.size ∧ acc.length ≤ p ∧ Hid (p = a + k ∧ acc.length ≤ a ∧ runS whites (s.data.toList.drop a) = k ∧ toksA x f a (s.data.toList.drop a) acc = T ∧ s.size < a + f) ∧ wr.ownsRow w.heap.size 101 6 out acc.length (cellsL acc) ∧ Below w.heap.size w wr) (fun _ at_ _ _ _ _ => s.size - (intOf at_).toNat)
 case atStart => exact ⟨l.length + 1, 0, k, k, [], rfl, hkl, by simp, Lib.hid (by rw [Hl.out, List.drop_zero]; exact ⟨by omega, by simp, Hk.out, HT2.out, by omega⟩), ⟨rfl, .inl ⟨rfl, rfl⟩⟩, hw1⟩
 case round =>
   obtain ⟨f, a, k1, p, acc, rfl, hp, hal, HQ, hown, hbr⟩ := hrel
   have hsz := hbr.size
   by_cases hlt : p < s.size
   · obtain ⟨c, r, hcr⟩ : ∃ c r, s.data.toList.drop p = c :: r := ⟨_, _, byte_drop s p hlt⟩
     have hd : (s.data.toList.drop a).drop (runS whites (s.data.toList.drop a)) = c :: r := by rw [HQ.out.2.2.1, List.drop_drop, ← HQ.out.1]; exact hcr
     obtain ⟨f', hf⟩ : ∃ f', f = f' + 1 := ⟨f - 1, by have := HQ.out; omega⟩
     obtain ⟨q, hq⟩ : ∃ q, s.extract p s.size = q := ⟨_, rfl⟩
     have hql : q.data.toList = c :: r := by rw [← hq, ext_drop, hcr]
     have hqs : q.size = s.size - p := by rw [← hq, ext_size]
     obtain ⟨N, hN⟩ : ∃ N, nextS x (c :: r) = N := ⟨_, rfl⟩
     have hnx := fun W hW => next_any x m HX.out q (c :: r) hql (by omega) (by omega) W hW
     rw [hN] at hnx
     have HN : Hid (∀ W, OKW m W → Calls Tryz.prog 73 #[.string q] W fun e w' => e = .returned (.tuple #[.agg #[.int .i64 N.t.k, .int .i64 (N.t.a : Int), .string (bs N.t.t), .int .i64 N.t.n, .int .i64 N.t.s, .int .i64 N.t.m], .int .i64 (N.n : Int), .int .i64 N.e]) ∧ Below W.heap.size W w') := Lib.hid hnx
     have hstep := HQ.out.2.2.2.1
     rw [hf] at hstep
     by_cases he : N.e = 0
     · have hbd := next_bd x (c :: r) (by rw [hN]; exact he)
       rw [hN] at hbd
       rw [toksA_go hd (by rw [hN]; exact he), hN, HQ.out.2.2.1, ← HQ.out.1] at hstep
       obtain ⟨n, hn⟩ : ∃ n, N.n = n := ⟨_, rfl⟩
       rw [hn] at hbd hstep HN
       have hcl : (c :: r).length = s.size - p := by rw [← hql, size_list, hqs]
       have hdd : (c :: r).drop n = s.data.toList.drop (p + n) := by rw [← hcr, List.drop_drop]
       rw [hdd] at hstep
       obtain ⟨p2, hp2⟩ : ∃ p2, p + n = p2 := ⟨_, rfl⟩
       rw [hp2] at hstep
       have kp : (p : Int) + (n : Int) = (p2 : Int) := by omega
       have kpw : IntKind.i64.wrap (p2 : Int) = (p2 : Int) := IntWalk.i64_in _ (by omega)
       obtain ⟨k3, hk3⟩ : ∃ k3, runS whites (s.data.toList.drop p2) = k3 := ⟨_, rfl⟩
       obtain ⟨q2, hq2⟩ : ∃ q2, s.extract p2 s.size = q2 := ⟨_, rfl⟩
       have hq2l : q2.data.toList = s.data.toList.drop p2 := by rw [← hq2, ext_drop]
       have hq2s : q2.size = s.size - p2 := by rw [← hq2, ext_size]
       have hk3l : k3 ≤ s.size - p2 := by rw [← hk3, ← hq2s, ← size_list, hq2l]; exact runS_le _ _
       have H3 := Lib.hid (fun W => run_white q2 k3 (by omega) (by rw [hq2l, hk3]) W)
       obtain ⟨p3, hp3⟩ : ∃ p3, p2 + k3 = p3 := ⟨_, rfl⟩
       have kp3 : (p2 : Int) + (k3 : Int) = (p3 : Int) := by omega
       have kp3w : IntKind.i64.wrap (p3 : Int) = (p3 : Int) := IntWalk.i64_in _ (by omega)
       obtain ⟨t2, ht2⟩ : ∃ t2 : Tk, { N.t with a := p } = t2 := ⟨_, rfl⟩
       rw [ht2] at hstep
       have hc2 : cellsL acc ++ [.int .i64 N.t.k, .int .i64 (p : Int), .string (bs N.t.t), .int .i64 N.t.n, .int .i64 N.t.s, .int .i64 N.t.m] = cellsL (acc ++ [t2]) := by rw [cellsL_app, ← ht2]; rfl
       have HQ2 : Hid (p3 = p2 + k3 ∧ (acc ++ [t2]).length ≤ p2 ∧ runS whites (s.data.toList.drop p2) = k3 ∧ toksA x f' p2 (s.data.toList.drop p2) (acc ++ [t2]) = T ∧ s.size < p2 + f') := Lib.hid ⟨hp3.symm, by rw [List.length_append, List.length_singleton]; omega, hk3, hstep, by have := HQ.out; omega⟩
       have hp2s : p2 ≤ s.size := by omega
       have hp2i : (p2 : Int) ≤ (s.size : Int) := by omega
       have Hpp : Hid (p < p3 ∧ p3 ≤ s.size ∧ (acc ++ [t2]).length ≤ p3) := Lib.hid ⟨by omega, by omega, by rw [List.length_append, List.length_singleton]; omega⟩
       have HC2 := Lib.hid hc2
       have Hown := Lib.hid hown
       have hpi : (p : Int) < (s.size : Int) := by omega
       clear hstep hdd hbd hnx hd hcr hf hq2l hq2s hk3 hp3 ht2 hc2 hown hql hqs hN hn hcl hp2
       go_wp2_with fail
       refine (HN.out _ (HW.out _ hbr)).mono ?_
       rintro _ w2 ⟨rfl, hb2⟩
       have hbt := Blk.new w2 101 #[.int .i64 N.t.k, .int .i64 (N.t.a : Int), .string (bs N.t.t), .int .i64 N.t.n, .int .i64 N.t.s, .int .i64 N.t.m]
       have hown2 := own_below (own_below Hown.out hb2) (show Below w2.heap.size w2 (w2.alloc (.cells #[.int .i64 N.t.k, .int .i64 (p : Int), .string (bs N.t.t), .int .i64 N.t.n, .int .i64 N.t.s, .int .i64 N.t.m] 101)) by (repeat' first | (with_reducible first | exact .refl _ _ | assumption | apply balloc | apply Below.drew | apply bset | refine bstep ?_ ‹_› | refine bturn ?_ ‹_› ?_) | go_size))
       go_wp2_with (at_builtin; refine wpList_append_own _ rfl _ _ 54 rfl w.heap.size 101 i0 (.agg #[.int .i64 0, .int .i64 0, .string ⟨#[]⟩, .int .i64 0, .int .i64 0, .int .i64 0]) 6 56 Tryz.underlying54 hi hz0 hz1 hz2 rfl (by decide) _ _ _ rfl (hown2.alloc _) ⟨w2.heap.size + 1, 0, none⟩ 1 1 [.int .i64 N.t.k, .int .i64 (p : Int), .string (bs N.t.t), .int .i64 N.t.n, .int .i64 N.t.s, .int .i64 N.t.m] rfl rfl ?c1 ?c2 ?c3 ?c4 ?c5 ?_)
       case c1 =>
         intro j u hj
         match j, hj with
         | 0, hj => simp at hj; subst hj; simp [Addr.add]
         | 1, hj => simp at hj; subst hj; simp [Addr.add]
         | 2, hj => simp at hj; subst hj; simp [Addr.add]
         | 3, hj => simp at hj; subst hj; simp [Addr.add]
         | 4, hj => simp at hj; subst hj; simp [Addr.add]
         | 5, hj => simp at hj; subst hj; simp [Addr.add]
         | j + 6, hj => simp at hj
       case c2 =>
         intro u hu
         simp only [List.mem_cons, List.not_mem_nil, or_false] at hu
         rcases hu with h | h | h | h | h | h <;> subst h <;> rfl
       case c3 => unfold maxLen; omega
       case c4 => omega
       case c5 => have := hb2.size; simp; omega
       intro v' w3 hown' hgrow _
       rw [HC2.out] at hown'
       have hb3 : Below w.heap.size w w3 := (Below.alloc (Below.alloc (hbr.trans (hb2.mono hsz)) (by have := hb2.size; omega) _) (by have := hb2.size; simp; omega) _).grown hgrow (by have := hb2.size; simp; omega) (fun k hk => (Hown.out.lt k hk).1)
       obtain ⟨A, cp, hv, hTM, _⟩ := own_tm hown' (by rw [List.length_append, List.length_singleton])
       have Hown' := Lib.hid hown'
       have Hv := Lib.hid hv
       clear hown' hgrow hv hTM hown2
       go_wp2_with fail
       refine (H3.out _).mono ?_
       rintro _ w4 ⟨rfl, hb4⟩
       go_wp2_with fail
       go_roundw
       case rel => exact ⟨f', p2, k3, p3, acc ++ [t2], by go_num, Hpp.out.2.1, Hpp.out.2.2, HQ2, by rw [List.length_append, List.length_singleton]; exact own_below Hown'.out hb4, hb3.trans (hb4.mono hb3.size)⟩
       case measure => have := Hpp.out.1; simp [intOf]; omega
     · rw [toksA_bad hd (by rw [hN]; exact he), hN, HQ.out.2.2.1, ← HQ.out.1] at hstep
       have HE := Lib.hid hstep
       have hpi : (p : Int) < (s.size : Int) := by omega
       clear hstep hnx hd hcr hf hql hqs hN
       go_wp2_with fail
       refine (HN.out _ (HW.out _ hbr)).mono ?_
       rintro _ w2 ⟨rfl, hb2⟩
       go_wp2_with fail
       go_returns
       exact ⟨⟨none, 0, by rw [← HE.out]; rfl, by rw [← HE.out]; exact TM.nil _ _, by rw [← HE.out]; exact Nat.le_refl _, by unfold maxLen; omega⟩, (hbr.trans (hb2.mono hsz)).alloc (by have := hb2.size; omega) _⟩
   · obtain rfl : p = s.size := by omega
     have hd : (s.data.toList.drop a).drop (runS whites (s.data.toList.drop a)) = [] := by rw [HQ.out.2.2.1, List.drop_drop, ← HQ.out.1]; exact drop_end s _ (Nat.le_refl _)
     obtain ⟨f', hf⟩ : ∃ f', f = f' + 1 := ⟨f - 1, by have := HQ.out; omega⟩
     have hstep := HQ.out.2.2.2.1
     rw [hf, toksA_end hd] at hstep
     have HE := Lib.hid hstep
     obtain ⟨A, cp, hv, hTM, hcap⟩ := own_tm hown rfl
     subst hv
     have HTM := Lib.hid hTM
     have HCap := Lib.hid hcap
     clear hd hf hstep hTM hown hcap
     go_wp2_with fail
     go_returns
     exact ⟨⟨A, cp, by rw [← HE.out]; rfl, by rw [← HE.out]; exact HTM.out, by rw [← HE.out]; exact HCap.out⟩, hbr⟩
end Go.Proofs.YtapilekangmcoaaGreatDoor
