/- The walks of the reference's rows of digits: digits, plus. -/
import Derived.Test.YtlmcjnekkhdmiaaDoorDigMath
import Derived.Test.YtlmcjnekkhdmiaaDoorRefA
import Derived.Deep.LoopGhost
import Derived.Deep.OwnRows
set_option linter.unusedVariables false
set_option linter.unusedSimpArgs false
namespace Go.Proofs.YtlmcjnekkhdmiaaDoor
open Go.RowKit

theorem made_row (n : Nat) : madeCells #[Value.int .i64 0] n = rowA 0 n := by
  apply Array.ext_getElem?
  intro j
  by_cases hj : j < n
  · rw [rowA_get _ hj, dig_zero]; simp [madeCells, hj, Nat.mod_one]
  · rw [Array.getElem?_eq_none (by simp [madeCells]; omega), Array.getElem?_eq_none (by rw [rowA_size]; omega)]
theorem mk_row (n : Nat) (hn : n ≤ 1000) (w : World) : (Instr.makeSlice 52 (.int .i64 (n : Int)) (.int .i64 (n : Int))).run Tryd.prog w = .ok (.slice (some ⟨w.heap.size, 0, none⟩) n n) (w.alloc (.cells (rowA 0 n) 3)) := by
  rw [← made_row]
  exact run_make_row' (P := Tryd.prog) 52 3 (.int .i64 0) 8 Tryd.underlying52 (by kernel_rfl) rfl .i64 .i64 n (by omega) (by omega) w

/-- A row of digits of X in memory. -/
def Row (w : World) (g o n X : Nat) : Prop := ∀ j, j < n → w.cell? ⟨g, o + j, none⟩ = some (.int .i64 (dig X j))
theorem Row.step {w w' : World} {g o n X : Nat} (h : Row w g o n X) (hb : Below w.heap.size w w') : Row w' g o n X := fun j hj => keep1 hb (h j hj)
theorem Row.of_blk {w : World} {g n X : Nat} {T : TypeId} (h : Blk w g T (rowA X n)) : Row w g 0 n X := fun j hj => by rw [h.cell, Nat.zero_add, rowA_get _ hj]
theorem Row.drop {w : World} {g o n X : Nat} (h : Row w g o n X) (k : Nat) (hk : k ≤ n) : Row w g (o + k) (n - k) (X / 10 ^ k) := fun j hj => by
  rw [Nat.add_assoc, h (k + j) (by omega), dig_div, Nat.add_comm]
theorem rowA_all (X n : Nat) : rowA (X % 10 ^ n) n = rowA X n := by
  apply Array.ext_getElem?
  intro j
  by_cases hj : j < n
  · rw [rowA_get _ hj, rowA_get _ hj, dig_mod_lt hj]
  · rw [Array.getElem?_eq_none (by rw [rowA_size]; omega), Array.getElem?_eq_none (by rw [rowA_size]; omega)]

set_option maxHeartbeats 1000000 in
theorem rplus_any (ga oa ca gb ob cb n a b : Nat) (w : World) (hn : n ≤ 60) (ha : Row w ga oa n a) (hb : Row w gb ob n b) :
    Calls Tryd.prog 42 #[.slice (some ⟨ga, oa, none⟩) n ca, .slice (some ⟨gb, ob, none⟩) n cb] w fun e w' => e = .returned (.slice (some ⟨w.heap.size, 0, none⟩) n n) ∧ Blk w' w.heap.size 3 (rowA (a + b) n) ∧ Below w.heap.size w w' := by
  have hmk := mk_row n (by omega)
  go_enter Tryd.func42, Tryd.ntmps42
  go_wp2
  go_loopw [6, 7] (fun c i wr => ∃ k m : Nat, k ≤ n ∧ i = .int .i64 k ∧ c = .int .i64 m ∧ m ≤ 1 ∧ (a + b) / 10 ^ k = a / 10 ^ k + b / 10 ^ k + m ∧ Blk wr w.heap.size 3 (rowA ((a + b) % 10 ^ k) n) ∧ Below w.heap.size w wr) (fun _ i _ => n - (intOf i).toNat)
  case atStart => exact ⟨0, 0, by omega, rfl, rfl, by omega, by simp, by rw [Nat.pow_zero, Nat.mod_one]; exact Blk.new _ _ _, by (repeat' first | (with_reducible first | exact .refl _ _ | assumption | apply balloc | apply Below.drew | apply bset | refine bstep ?_ ‹_› | refine bturn ?_ ‹_› ?_) | go_size)⟩
  case round =>
    obtain ⟨k, m, hk, rfl, rfl, hm1, hm, hB, hbl⟩ := hrel
    by_cases hlt : k < n
    · have qa := (ha.step hbl) k hlt
      have qb := (hb.step hbl) k hlt
      have da := dig_lt a k
      have db := dig_lt b k
      have HS := Lib.hid (plus_step hm)
      clear hm
      have qc := hB.cell k
      rw [rowA_get _ hlt] at qc
      have qz := hB.frozen k
      have hl := hB.lt
      generalize hx : dig a k = x at *
      generalize hy : dig b k = y at *
      clear hx hy
      go_wp2
      go_region
      go_wp2
      go_roundw
      case rel => exact ⟨k + 1, (x + y + m) / 10, by omega, by go_num, by go_num, by omega, HS.out.2, by
        have := hB.set_ k (.int .i64 (((x : Int) + y + m) % 10))
        rw [rowA_up (by rw [HS.out.1]; omega)] at this
        exact this, by (repeat' first | (with_reducible first | exact .refl _ _ | assumption | apply balloc | apply Below.drew | apply bset | refine bstep ?_ ‹_› | refine bturn ?_ ‹_› ?_) | go_size)⟩
      case measure => simp [intOf]; omega
    · obtain rfl : k = n := by omega
      go_wp2
      go_ret
      exact ⟨rfl, by rw [rowA_all] at hB; exact hB, hbl⟩
end Go.Proofs.YtlmcjnekkhdmiaaDoor
