/- The walk of At. -/
import Derived.Test.YteljkkfnnmikkaaDoorDeciD
namespace Go.Proofs.YteljkkfnnmikkaaDoor
open Go.RowKit
attribute [local go_sem high] run_dec_eql run_dec_neq

structure AtR where
  n : Int
  b : Bool
  e : Int
def atS (n s c : Int) : AtR :=
  if c < 0 ∨ 6 < c then ⟨0, false, 1⟩
  else if soundS n s = true then ⟨unitsS n s / p10 (6 - c).toNat, decide (unitsS n s % p10 (6 - c).toNat = 0), 0⟩
  else ⟨0, false, 2⟩

set_option maxHeartbeats 1000000 in
set_option maxRecDepth 100000 in
theorem at_bad (n s c : Int) (h : c < 0 ∨ 6 < c) (w : World) :
    Calls Tryd.prog 20 #[.agg #[.int .i64 n, .int .i64 s], .int .i64 c] w fun e w' => e = .returned (.tuple #[.int .i64 (atS n s c).n, .bool (atS n s c).b, .int .i64 (atS n s c).e]) ∧ Below w.heap.size w w' := by
  have HR : atS n s c = ⟨0, false, 1⟩ := by unfold atS; rw [if_pos h]
  replace HR := Lib.hid HR
  by_cases g1 : c < 0
  · clear h
    go_enter Tryd.func20, Tryd.ntmps20
    go_wp2_with fail
    go_returns
    exact ⟨by rw [HR.out]; rfl, by (repeat' (first | (with_reducible exact Below.refl _ _) | (with_reducible assumption) | (with_reducible refine balloc ?_ _) | (with_reducible refine Below.drew ?_) | (with_reducible refine bset ?_ ?_ _) | (with_reducible refine bstep ?_ (by with_reducible assumption)) | (with_reducible refine bturn ?_ (by with_reducible assumption) ?_) | go_size))⟩
  · have g2 : 6 < c := by omega
    clear h
    go_enter Tryd.func20, Tryd.ntmps20
    go_wp2_with fail
    go_returns
    exact ⟨by rw [HR.out]; rfl, by (repeat' (first | (with_reducible exact Below.refl _ _) | (with_reducible assumption) | (with_reducible refine balloc ?_ _) | (with_reducible refine Below.drew ?_) | (with_reducible refine bset ?_ ?_ _) | (with_reducible refine bstep ?_ (by with_reducible assumption)) | (with_reducible refine bturn ?_ (by with_reducible assumption) ?_) | go_size))⟩

set_option maxHeartbeats 1000000 in
set_option maxRecDepth 100000 in
theorem at_form (n s c : Int) (hn : I64 n) (hs : I64 s) (h : 0 ≤ c ∧ c ≤ 6) (hf : ¬ soundS n s = true) (w : World) :
    Calls Tryd.prog 20 #[.agg #[.int .i64 n, .int .i64 s], .int .i64 c] w fun e w' => e = .returned (.tuple #[.int .i64 (atS n s c).n, .bool (atS n s c).b, .int .i64 (atS n s c).e]) ∧ Below w.heap.size w w' := by
  have HR : atS n s c = ⟨0, false, 2⟩ := by unfold atS; rw [if_neg (by omega), if_neg hf]
  replace HR := Lib.hid HR
  obtain ⟨h0, h1⟩ := h
  have HN : Hid (I64 n ∧ I64 s) := ⟨hn, hs⟩
  clear hn hs
  go_enter Tryd.func20, Tryd.ntmps20
  go_wp2_with fail
  refine (all_1 n s HN.out.1 HN.out.2 _ _ 23 _ (Blk.new' _ _ _ (by simp))).mono ?_
  rintro e w1 ⟨rfl, hb⟩
  rw [if_neg hf]
  clear hf
  go_wp2_with fail
  go_returns
  exact ⟨by rw [HR.out]; rfl, by (repeat' (first | (with_reducible exact Below.refl _ _) | (with_reducible assumption) | (with_reducible refine balloc ?_ _) | (with_reducible refine Below.drew ?_) | (with_reducible refine bset ?_ ?_ _) | (with_reducible refine bstep ?_ (by with_reducible assumption)) | (with_reducible refine bturn ?_ (by with_reducible assumption) ?_) | go_size))⟩
end Go.Proofs.YteljkkfnnmikkaaDoor
