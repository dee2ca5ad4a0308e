/- The walk of Div at 2 / 3. -/
import Derived.Test.YtlmcjnekkhdmiaaDoorParseA
set_option linter.unusedVariables false
set_option linter.unusedSimpArgs false
namespace Go.Proofs.YtlmcjnekkhdmiaaDoor
open Go.RowKit
attribute [local go_sem high] run_dec_eql run_dec_neq

set_option maxHeartbeats 1000000 in
set_option maxRecDepth 100000 in
theorem div64_awake (w : World) : Calls Tryd.prog 68 #[.int .u64 0, .int .u64 2000000, .int .u64 3] w fun e w' => e = .returned (.tuple #[.int .u64 666666, .int .u64 2]) ∧ Below w.heap.size w w' := by
  go_enter Tryd.func68, Tryd.ntmps68
  go_wp2_with fail
  go_region_held3 (fun w' => True) (trivial) (fail)
  go_wp2_with fail
  go_returns
  exact ⟨rfl, by (repeat' first | (with_reducible first | exact .refl _ _ | assumption | apply balloc | apply Below.drew | apply bset | refine bstep ?_ ‹_› | refine bturn ?_ ‹_› ?_) | go_size)⟩

set_option maxHeartbeats 1000000 in
set_option maxRecDepth 100000 in
theorem even_awake (w : World) : Calls Tryd.prog 45 #[.int .u64 0, .int .u64 2000000, .int .u64 3] w fun e w' => e = .returned (.tuple #[.int .u64 666667, .bool true]) ∧ Below w.heap.size w w' := by
  go_enter Tryd.func45, Tryd.ntmps45
  go_wp2_with (go_at_call 68; refine (div64_awake _).mono ?_; rintro e w' ⟨rfl, hb⟩)
  go_returns
  exact ⟨rfl, by (repeat' first | (with_reducible first | exact .refl _ _ | assumption | apply balloc | apply Below.drew | apply bset | refine bstep ?_ ‹_› | refine bturn ?_ ‹_› ?_) | go_size)⟩

theorem z2 (W : World) : Calls Tryd.prog 11 #[.agg #[.int .i64 2, .int .i64 0]] W fun e w' => e = .returned (.int .u64 2) ∧ Below W.heap.size W w' := by
  refine (size_any 2 0 (by omega) (by omega) W).mono ?_
  rintro e w' ⟨rfl, rfl⟩
  exact ⟨by rw [show mag 2 = 2 by decide +kernel], by (repeat' first | (with_reducible first | exact .refl _ _ | assumption | apply balloc | apply Below.drew | apply bset | refine bstep ?_ ‹_› | refine bturn ?_ ‹_› ?_) | go_size)⟩
theorem z3 (W : World) : Calls Tryd.prog 11 #[.agg #[.int .i64 3, .int .i64 0]] W fun e w' => e = .returned (.int .u64 3) ∧ Below W.heap.size W w' := by
  refine (size_any 3 0 (by omega) (by omega) W).mono ?_
  rintro e w' ⟨rfl, rfl⟩
  exact ⟨by rw [show mag 3 = 3 by decide +kernel], by (repeat' first | (with_reducible first | exact .refl _ _ | assumption | apply balloc | apply Below.drew | apply bset | refine bstep ?_ ‹_› | refine bturn ?_ ‹_› ?_) | go_size)⟩
theorem w6 (W : World) : Calls Tryd.prog 44 #[.int .i64 6] W fun e w' => e = .returned (.int .u64 1000000) ∧ Below W.heap.size W w' := by
  refine (power_any 6 (by omega) (by omega) W).mono ?_
  rintro e w' ⟨rfl, hb⟩
  exact ⟨by first | rfl | (rw [show p10 (Int.toNat 6) = 1000000 by decide +kernel]) | (rw [show p10 6 = 1000000 by decide +kernel]), by first | exact hb | (subst hb; (repeat' first | (with_reducible first | exact .refl _ _ | assumption | apply balloc | apply Below.drew | apply bset | refine bstep ?_ ‹_› | refine bturn ?_ ‹_› ?_) | go_size))⟩
theorem m2 (W : World) : Calls Tryd.prog 43 #[.int .u64 2, .int .u64 1000000] W fun e w' => e = .returned (.tuple #[.int .u64 0, .int .u64 2000000]) ∧ Below W.heap.size W w' := by
  refine (Tryd.bits_Mul64 2 1000000 (by decide) (by decide) W).mono ?_
  rintro e w' ⟨rfl, rfl⟩
  exact ⟨rfl, by (repeat' first | (with_reducible first | exact .refl _ _ | assumption | apply balloc | apply Below.drew | apply bset | refine bstep ?_ ‹_› | refine bturn ?_ ‹_› ?_) | go_size)⟩

set_option maxHeartbeats 2000000 in
set_option maxRecDepth 100000 in
theorem div_awake (w : World) : Calls Tryd.prog 22 #[.agg #[.int .i64 2, .int .i64 0], .agg #[.int .i64 3, .int .i64 0]] w fun e w' => e = .returned (.tuple #[.agg #[.int .i64 666667, .int .i64 6], .int .i64 0]) ∧ Below w.heap.size w w' := by
  have hb0 := ((Blk.new w 23 #[.int .i64 2, .int .i64 0]).alloc (.cells #[.int .i64 3, .int .i64 0] 23)).alloc (.cells #[.int .i64 0, .int .i64 0] 23)
  have hb2 := (Blk.new' (w.alloc (.cells #[.int .i64 2, .int .i64 0] 23)) 23 #[.int .i64 3, .int .i64 0] (n := w.heap.size + 1) (by simp)).alloc (.cells #[.int .i64 0, .int .i64 0] 23)
  have hb1 := Blk.new' ((w.alloc (.cells #[.int .i64 2, .int .i64 0] 23)).alloc (.cells #[.int .i64 3, .int .i64 0] 23)) 23 #[.int .i64 0, .int .i64 0] (n := w.heap.size + 1 + 1) (by simp)
  have h : (soundS 2 0 && soundS 3 0) = true := by decide +kernel
  go_enter Tryd.func22, Tryd.ntmps22
  go_wp2_with fail
  refine (all_2 2 0 3 0 (by unfold I64; omega) (by unfold I64; omega) (by unfold I64; omega) (by unfold I64; omega) _ _ 23 _ (Blk.new' _ _ _ (by simp))).mono ?_
  rintro e w1 ⟨rfl, hb⟩
  replace hb0 := (hb0.alloc _).step hb
  replace hb2 := (hb2.alloc _).step hb
  replace hb1 := (hb1.alloc _).step hb
  rw [if_pos h]
  have c0 := hb0.cell 0
  have c1 := hb0.cell 1
  have e0 := hb2.cell 0
  have e1 := hb2.cell 1
  simp at c0 c1 e0 e1
  clear h
  have k6 : IntKind.i64.wrap 6 = 6 := by decide
  go_wp2_with fail
  go_region_held3 (fun w' => (Blk w' (w.heap.size + 1 + 1) 23 #[.int .i64 0, .int .i64 0]) ∧ (Blk w' w.heap.size 23 #[.int .i64 2, .int .i64 0]) ∧ (Blk w' (w.heap.size + 1) 23 #[.int .i64 3, .int .i64 0]) ∧ (w'.cell? ⟨w.heap.size, 0, none⟩ = some (.int .i64 2) ∧ w'.cell? ⟨w.heap.size, 1, none⟩ = some (.int .i64 0)) ∧ w'.cell? ⟨w.heap.size + 1, 0, none⟩ = some (.int .i64 3) ∧ w'.cell? ⟨w.heap.size + 1, 1, none⟩ = some (.int .i64 0)) ((go_split_ands; (repeat' apply And.intro) <;> first | assumption | exact keep1 (by assumption) (by assumption) | exact Blk.step (by assumption) (by assumption)))
    (first
      | (go_at_call 11; refine (z2 _).mono ?_; rintro e w' ⟨rfl, hb'⟩)
      | (go_at_call 44; refine (w6 _).mono ?_; rintro e w' ⟨rfl, hb'⟩)
      | (go_at_call 43; refine (m2 _).mono ?_; rintro e w' ⟨rfl, hb'⟩))
  go_split_ands
  clear k6
  go_wp2_with fail
  refine (z3 _).mono ?_
  rintro e w3 ⟨rfl, hb3⟩
  have hr : Blk w3 (w.heap.size + 1 + 1) 23 #[.int .i64 0, .int .i64 0] := Blk.step (by assumption) hb3
  go_wp2_with fail
  refine (even_awake _).mono ?_
  rintro e w4 ⟨rfl, hb4⟩
  replace hr := hr.step hb4
  have hr0 : Blk w3 w.heap.size 23 #[.int .i64 2, .int .i64 0] := Blk.step (by assumption) hb3
  have hr2 : Blk w3 (w.heap.size + 1) 23 #[.int .i64 3, .int .i64 0] := Blk.step (by assumption) hb3
  replace hr0 := hr0.step hb4
  replace hr2 := hr2.step hb4
  have f0 := hr0.cell 0
  have f2 := hr2.cell 0
  simp at f0 f2
  go_wp2_with fail
  refine (dec_any 666667 6 false (by omega) (by omega) (by omega) (by omega) _).mono ?_
  rintro e w5 ⟨rfl, hb5⟩
  replace hr := hr.step hb5
  go_wp2_with (first | (refine wpList_store_blk hr rfl _ _ _ (by rfl) _ (by rfl) (by rfl) (by repeat first | with_reducible first | exact hr | apply Blk.alloc | apply Blk.drew | refine Blk.far ?_ (by simp <;> omega) _ | refine Blk.turn ?_ ‹_› (by omega)) (by rfl) (by kernel_rfl) (by simp [Value.oneCell']) ?_; intro wt hrn ht))
  refine ret_blk2 rfl hrn rfl Tryd.underlying23 rfl (by kernel_rfl) rfl ?_
  exact ⟨by rw [show (decS 6 666667 false).n = 666667 by decide +kernel, show (decS 6 666667 false).s = 6 by decide +kernel, show (decS 6 666667 false).e = 0 by decide +kernel]; rfl, by (repeat' first | (with_reducible first | exact .refl _ _ | assumption | apply balloc | apply Below.drew | apply bset | refine bstep ?_ ‹_› | refine bturn ?_ ‹_› ?_) | go_size)⟩
end Go.Proofs.YtlmcjnekkhdmiaaDoor
