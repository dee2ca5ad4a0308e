/- The walks of the reference's rows of digits: digits, plus. The walk of the reference's dec: a row of digits, rounded, as a number. -/
import Derived.Deep.LoopGhost
import Derived.Deep.OwnRows
import Derived.Test.YtapilekangmcoaaGreatDoorA1
import Derived.Test.YtapilekangmcoaaGreatDoorA10
set_option linter.unusedVariables false
set_option linter.unusedSimpArgs false
set_option maxHeartbeats 8000000
set_option maxRecDepth 100000
namespace Go.Proofs.YtapilekangmcoaaGreatDoor
open Go.RowKit
theorem made_row (n : Nat) : madeCells #[Value.int .i64 0] n = rowA 0 n := by
 apply Array.ext_getElem?
 intro j
 by_cases hj : j < n
 · rw [rowA_get _ hj, dig_zero]; simp [madeCells, hj, Nat.mod_one]
 · rw [Array.getElem?_eq_none (by simp [madeCells]; omega), Array.getElem?_eq_none (by rw [rowA_size]; omega)]
theorem mk_row (n : Nat) (hn : n ≤ 1000) (w : World) : (Instr.makeSlice 107 (.int .i64 (n : Int)) (.int .i64 (n : Int))).run Tryz.prog w = .ok (.slice (some ⟨w.heap.size, 0, none⟩) n n) (w.alloc (.cells (rowA 0 n) 3)) := by
 rw [← made_row]
 exact run_make_row' (P := Tryz.prog) 107 3 (.int .i64 0) 8 Tryz.underlying107 (by kernel_rfl) rfl .i64 .i64 n (by omega) (by omega) w
/-- A row of digits of X in memory. -/
def Row (w : World) (g o n X : Nat) : Prop := ∀ j, j < n → w.cell? ⟨g, o + j, none⟩ = some (.int .i64 (dig X j))
theorem Row.step {w w' : World} {g o n X : Nat} (h : Row w g o n X) (hb : Below w.heap.size w w') : Row w' g o n X := fun j hj => keep1 hb (h j hj)
theorem Row.of_blk {w : World} {g n X : Nat} {T : TypeId} (h : Blk w g T (rowA X n)) : Row w g 0 n X := fun j hj => by rw [h.cell, Nat.zero_add, rowA_get _ hj]
theorem Row.drop {w : World} {g o n X : Nat} (h : Row w g o n X) (k : Nat) (hk : k ≤ n) : Row w g (o + k) (n - k) (X / 10 ^ k) := fun j hj => by
 rw [Nat.add_assoc, h (k + j) (by omega), dig_div, Nat.add_comm]
theorem rowA_all (X n : Nat) : rowA (X % 10 ^ n) n = rowA X n := by
 apply Array.ext_getElem?
 intro j
 by_cases hj : j < n
 · rw [rowA_get _ hj, rowA_get _ hj, dig_mod_lt hj]
 · rw [Array.getElem?_eq_none (by rw [rowA_size]; omega), Array.getElem?_eq_none (by rw [rowA_size]; omega)]
set_option maxHeartbeats 1000000 in
theorem rdigits_any (n : Nat) (hn : n < 1000000000000) (w : World) :
   Calls Tryz.prog 144 #[.int .i64 (n : Int), .int .i64 12] w fun e w' => e = .returned (.slice (some ⟨w.heap.size, 0, none⟩) 12 12) ∧ Blk w' w.heap.size 3 (rowA n 12) ∧ Below w.heap.size w w' := by
 have hmk : ∀ W, (Instr.makeSlice 107 (.int .i64 12) (.int .i64 12)).run Tryz.prog W = .ok (.slice (some ⟨W.heap.size, 0, none⟩) 12 12) (W.alloc (.cells (rowA 0 12) 3)) := fun W => mk_row 12 (by decide) W
 go_enter Tryz.func144, Tryz.ntmps144
 go_wp2
 go_loopw [0, 6] (fun v i wr => ∃ k m : Nat, k ≤ 12 ∧ i = .int .i64 k ∧ v = .int .i64 m ∧ m = n / 10 ^ k ∧ m < 1000000000000 ∧ Blk wr w.heap.size 3 (rowA (n % 10 ^ k) 12) ∧ Below w.heap.size w wr) (fun _ i _ => 12 - (intOf i).toNat)
 case atStart => exact ⟨0, n, by omega, rfl, rfl, by simp, hn, by rw [Nat.pow_zero, Nat.mod_one]; exact Blk.new _ _ _, by (repeat' first | (with_reducible first | exact .refl _ _ | assumption | apply balloc | apply Below.drew | apply bset | refine bstep ?_ ‹_› | refine bturn ?_ ‹_› ?_) | go_size)⟩
 case round =>
   obtain ⟨k, m, hk, rfl, rfl, hm, hm1, hB, hbl⟩ := hrel
   have HM := Lib.hid hm
   clear hm
   by_cases hlt : k < 12
   · have qc := hB.cell k
     rw [rowA_get _ hlt] at qc
     have qz := hB.frozen k
     have hl := hB.lt
     go_wp2
     go_roundw
     case rel => exact ⟨k + 1, m / 10, by omega, by go_num, by go_num, by rw [HM.out, div_succ], by omega, by
       have := hB.set_ k (.int .i64 ((m : Int) % 10))
       rw [rowA_up (by rw [HM.out]; unfold dig; omega)] at this
       exact this, by (repeat' first | (with_reducible first | exact .refl _ _ | assumption | apply balloc | apply Below.drew | apply bset | refine bstep ?_ ‹_› | refine bturn ?_ ‹_› ?_) | go_size)⟩
     case measure => simp [intOf]; omega
   · obtain rfl : k = 12 := by omega
     go_wp2
     go_ret
     exact ⟨rfl, by rw [rowA_all] at hB; exact hB, hbl⟩
end Go.Proofs.YtapilekangmcoaaGreatDoor
namespace Go.Proofs.YtapilekangmcoaaGreatDoor
open Go.RowKit
end Go.Proofs.YtapilekangmcoaaGreatDoor
