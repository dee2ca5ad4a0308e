/- The walk of Text at 12.5. -/
import Derived.Test.YtlmcjnekkhdmiaaDoorParseA
set_option linter.unusedVariables false
set_option linter.unusedSimpArgs false
namespace Go.Proofs.YtlmcjnekkhdmiaaDoor
open Go.RowKit
attribute [local go_sem high] run_dec_eql run_dec_neq

theorem t1 (W : World) (htab : Lib.TabIs Tryd.prog W "internal/strconv.uint64pow10" .u64 Lib.pow10Tab) : Calls Tryd.prog 10 #[.int .u64 125, .int .i64 10] W fun e w' => e = .returned (.string ⟨#[49, 50, 53]⟩) ∧ Below W.heap.size W w' := by
  have h := fmt_any 125 (by decide) W htab
  rw [show (⟨(Lib.decDigits 125).toArray⟩ : ByteArray) = ⟨#[49, 50, 53]⟩ by decide +kernel] at h
  exact h
theorem t2 (W : World) : Calls Tryd.prog 12 #[.string ⟨#[48]⟩, .int .i64 0] W fun e w' => e = .returned (.string ⟨#[]⟩) ∧ w' = W := Tryd.strings_Repeat_zero ⟨#[48]⟩ W

set_option maxHeartbeats 1000000 in
set_option maxRecDepth 100000 in
theorem text_awake (w : World) (htab : Lib.TabIs Tryd.prog w "internal/strconv.uint64pow10" .u64 Lib.pow10Tab) :
    Calls Tryd.prog 4 #[.agg #[.int .i64 125, .int .i64 1]] w fun e w' => e = .returned (.tuple #[.string ⟨#[49, 50, 46, 53]⟩, .int .i64 0]) ∧ Below w.heap.size w w' := by
  have hb0 := Blk.new w 23 #[.int .i64 125, .int .i64 1]
  have hs : soundS 125 1 = true := by decide +kernel
  have HT := Lib.hid (Lib.tabBelow_of_tabIs htab)
  clear htab
  go_enter Tryd.func4, Tryd.ntmps4
  go_wp2_with fail
  refine (all_1 125 1 (by unfold I64; omega) (by unfold I64; omega) _ _ 23 _ (Blk.new' _ _ _ (by simp))).mono ?_
  rintro e w1 ⟨rfl, hb⟩
  replace hb0 := (hb0.alloc _).step hb
  rw [if_pos hs]
  clear hs
  have c0 := hb0.cell 0
  have c1 := hb0.cell 1
  simp at c0 c1
  go_wp2_with (first | (go_at_call 11; refine (size_any 125 1 (by omega) (by omega) _).mono ?_; rintro e w' ⟨rfl, rfl⟩))
  rw [show mag 125 = 125 by decide +kernel]
  refine (t1 _ (HT.out _ (by (repeat' first | (with_reducible first | exact .refl _ _ | assumption | apply balloc | apply Below.drew | apply bset | refine bstep ?_ ‹_› | refine bturn ?_ ‹_› ?_) | go_size)))).mono ?_
  rintro e w2 ⟨rfl, hb2⟩
  replace hb0 := (hb0.alloc _).step hb2
  have c2 := hb0.cell 0
  have c3 := hb0.cell 1
  simp at c2 c3
  go_wp2_with fail
  refine (t2 _).mono ?_
  rintro e w3 ⟨rfl, rfl⟩
  go_wp2_with fail
  have k2 : IntKind.i64.wrap 2 = 2 := by decide
  go_region_held3 (fun w' => w'.cell? ⟨w.heap.size, 0, none⟩ = some (.int .i64 125) ∧ w'.cell? ⟨w.heap.size, 1, none⟩ = some (.int .i64 1)) ((first | (simp [*, World.cell?_alloc_some, World.cell?_setCell_far]; done) | (go_split_ands; (repeat' apply And.intro) <;> first | assumption | exact keep1 (by assumption) (by assumption) | (simp [go_sem]; done) | (repeat (first | (with_reducible assumption) | (with_reducible refine keepd ?_) | (with_reducible refine keepa2 ?_)))))) (fail)
  go_wp2_with fail
  go_returns
  exact ⟨by kernel_rfl, by (repeat' first | (with_reducible first | exact .refl _ _ | assumption | apply balloc | apply Below.drew | apply bset | refine bstep ?_ ‹_› | refine bturn ?_ ‹_› ?_) | go_size)⟩
end Go.Proofs.YtlmcjnekkhdmiaaDoor
