/- The walk of the reference's dec: a row of digits, rounded, as a number. -/
import Derived.Test.YtlmcjnekkhdmiaaDoorRowsA
set_option linter.unusedVariables false
set_option linter.unusedSimpArgs false
namespace Go.Proofs.YtlmcjnekkhdmiaaDoor
open Go.RowKit

theorem short_nat (k : Nat) (X : Nat) (h : dig X 0 = 0) : short (k + 1) (X : Int) = short k ((X / 10 : Nat) : Int) := by
  have h2 : X % 10 = 0 := by unfold dig at h; simpa using h
  rw [short_go (by omega)]
  congr 1
theorem short_nat_stop (k : Nat) (X : Nat) (h : k = 0 ∨ ¬ dig X 0 = 0) : short k (X : Int) = ((X : Int), (k : Int)) := by
  refine short_stop ?_
  rcases h with h | h
  · exact .inl h
  · refine .inr fun h2 => h ?_
    unfold dig
    simp
    omega
theorem rowA_one {up n : Nat} (h : up ≤ 1) : (rowA 0 n).setIfInBounds 0 (.int .i64 (up : Int)) = rowA up n := by
  refine rowA_set (fun _ => by unfold dig; simp; omega) fun j _ hne => ?_
  rw [dig_zero]
  exact dig_lt_pow (i := 1) (by omega) (by omega)
theorem div_step (M p : Nat) : M / 10 ^ p = M / 10 ^ (p + 1) * 10 + dig M p := by rw [div_succ]; unfold dig; omega
theorem dig_shift (Y j : Nat) : dig (Y / 10 ^ j) 0 = dig Y j := by rw [dig_div, Nat.zero_add]
theorem rplus_at (ga oa ca gb ob cb n a b r : Nat) (w : World) (hr : w.heap.size = r) (hn : n ≤ 60) (ha : Row w ga oa n a) (hb : Row w gb ob n b) :
    Calls Tryd.prog 42 #[.slice (some ⟨ga, oa, none⟩) n ca, .slice (some ⟨gb, ob, none⟩) n cb] w fun e w' => e = .returned (.slice (some ⟨r, 0, none⟩) n n) ∧ Blk w' r 3 (rowA (a + b) n) ∧ Below w.heap.size w w' := hr ▸ rplus_any ga oa ca gb ob cb n a b w hn ha hb

theorem decS_big {K : Nat} {Y : Int} {b : Bool} {q : Int × Int} (h : short K Y = q) (hb : big < q.1) : decS K Y b = ⟨0, 0, 3⟩ := by unfold decS; rw [h, if_pos hb]
theorem decS_ok {K : Nat} {Y : Int} {b : Bool} {q : Int × Int} (h : short K Y = q) (hb : ¬ big < q.1) : decS K Y b = ⟨if b then -q.1 else q.1, q.2, 0⟩ := by unfold decS; rw [h, if_neg hb]

set_option maxHeartbeats 4000000 in
set_option maxRecDepth 100000 in
theorem rdec_low (g o c Y K : Nat) (below : Bool) (w : World) (hX : Y < 10 ^ 40) (hk : K ≤ 6) (h : Row w g o 60 Y) :
    Calls Tryd.prog 21 #[.slice (some ⟨g, o, none⟩) 60 c, .int .i64 (K : Int), .bool below] w fun e w' => e = .returned (.tuple #[.agg #[.int .i64 (decS K Y below).n, .int .i64 (decS K Y below).s], .int .i64 (decS K Y below).e]) ∧ Below w.heap.size w w' := by
  have hmk : ∀ W, (Instr.makeSlice 52 (.int .i64 60) (.int .i64 60)).run Tryd.prog W = .ok (.slice (some ⟨W.heap.size, 0, none⟩) 60 60) (W.alloc (.cells (rowA 0 60) 3)) := fun W => mk_row 60 (by decide) W
  have hg0 : (rowA 0 60)[0]? = some (.int .i64 0) := rowA_get 0 (by decide)
  have HY : Hid (Y < 10 ^ 60) := Nat.lt_of_lt_of_le hX (Nat.pow_le_pow_right (by decide) (by decide))
  have H := Lib.hid h
  have hr := (Blk.new w 23 #[.int .i64 0, .int .i64 0]).alloc (.cells (rowA 0 60) 3)
  have hone := Blk.new' (w.alloc (.cells #[.int .i64 0, .int .i64 0] 23)) 3 (rowA 0 60) (n := w.heap.size + 1) (by simp)
  have hs0 : (rowA 0 60).setIfInBounds 0 (.int .i64 0) = rowA 0 60 := rowA_one (up := 0) (by decide)
  have HO := Lib.hid hone
  clear h hX hone
  go_enter Tryd.func21, Tryd.ntmps21
  go_wp2_with fail
  refine (rplus_at g o c (w.heap.size + 1) 0 60 60 Y 0 (w.heap.size + 1 + 1) _ (by simp) (by omega) (H.out.step (by (repeat' first | (with_reducible first | exact .refl _ _ | assumption | apply balloc | apply Below.drew | apply bset | refine bstep ?_ ‹_› | refine bturn ?_ ‹_› ?_) | go_size))) (Row.of_blk HO.out)).mono ?_
  rintro e w2 ⟨rfl, hB, hb2⟩
  replace hr : Blk w2 w.heap.size 23 #[.int .i64 0, .int .i64 0] := hr.step hb2
  have hbl : Below w.heap.size w w2 := by (repeat' first | (with_reducible first | exact .refl _ _ | assumption | apply balloc | apply Below.drew | apply bset | refine bstep ?_ ‹_› | refine bturn ?_ ‹_› ?_) | go_size)
  rw [Nat.add_zero] at hB
  clear hb2 hg0 hmk H HO hs0
  have hcell := fun j (hj : j < 60) => (hB.cell j).trans (rowA_get Y hj)
  have HC := Lib.hid hcell
  have hlB := hB.lt
  clear hcell hB
  go_wp2_with fail
  go_loop [0, 1] (fun v x => ∃ j L k : Nat, L + j = 60 ∧ v = .slice (some ⟨w.heap.size + 1 + 1, j, none⟩) L L ∧ x = .int .i64 (k : Int) ∧ k + j = K ∧ short K (Y : Int) = short k ((Y / 10 ^ j : Nat) : Int)) (fun _ x => (intOf x).toNat)
  case atStart => exact ⟨0, 60, K, rfl, rfl, rfl, rfl, by simp⟩
  case round =>
    obtain ⟨j, L, k, hj, rfl, rfl, hkj, hs⟩ := hrel
    have HS := Lib.hid hs
    have hL1 : 34 ≤ L := by omega
    have hL2 : L ≤ 60 := by omega
    have q0 : w2.cell? ⟨w.heap.size + 1 + 1, j, none⟩ = some (.int .i64 (dig Y j : Int)) := HC.out j (by omega)
    clear hs
    have hd := dig_lt Y j
    by_cases hgo : 0 < k ∧ dig Y j = 0
    · obtain ⟨hk0, hz⟩ := hgo
      have HZ := Lib.hid hz
      rw [hz] at q0
      clear hz hd
      go_wp2
      go_round
      case rel => exact ⟨j + 1, L - 1, k - 1, by omega, rfl, by go_num, by omega, by
        rw [HS.out]
        obtain ⟨i, rfl⟩ : ∃ i, k = i + 1 := ⟨k - 1, by omega⟩
        rw [short_nat i _ (by rw [dig_shift]; exact HZ.out), Nat.add_sub_cancel, div_succ]⟩
      case measure => simp [intOf]; omega
    · have hstop : k = 0 ∨ ¬ dig Y j = 0 := by omega
      have hq : short K (Y : Int) = (((Y / 10 ^ j : Nat) : Int), (k : Int)) := by
        rw [HS.out, short_nat_stop]
        rw [dig_shift]
        exact hstop
      have HQ := Lib.hid hq
      have hMj : ∀ p, dig (Y / 10 ^ j) p = dig Y (j + p) := fun p => by rw [dig_div, Nat.add_comm]
      have HMj := Lib.hid hMj
      have hM : Y / 10 ^ j < 10 ^ L := by
        rw [Nat.div_lt_iff_lt_mul (t10 j), ← Nat.pow_add, hj]
        exact HY.out
      have HM0 := Lib.hid hM
      clear hq hMj hM HS
      generalize hMe : Y / 10 ^ j = M at *
      generalize hdv : dig Y j = dv at *
      clear hMe hdv
      rcases (show k = 0 ∨ (0 < k ∧ ¬ dv = 0) by omega) with rfl | ⟨hk0, hnz⟩
      all_goals
        go_wp2
        go_loop [15, 16] (fun a i => ∃ p m : Nat, p ≤ L ∧ i = .int .i64 ((p : Int) - 1) ∧ a = .int .i64 (m : Int) ∧ m = M / 10 ^ p ∧ m ≤ 10000000000000) (fun _ i => (intOf i + 1).toNat)
        case atStart => exact ⟨L, 0, by omega, rfl, rfl, by rw [Nat.div_eq_of_lt HM0.out], by omega⟩
        case round =>
          obtain ⟨p, m, hp, rfl, rfl, hm, hm1⟩ := hrel
          have HM := Lib.hid hm
          clear hm
          by_cases hz : p = 0
          · subst hz
            have hmM : m = M := by rw [HM.out]; simp
            have HMM := Lib.hid hmM
            clear hmM
            by_cases hbig : 999999999999 < m
            · have hD := decS_big (b := below) HQ.out (by show (999999999999 : Int) < (M : Int); rw [← HMM.out]; omega)
              have HD := Lib.hid hD
              clear hD
              go_wp2_with (refine wpList_store_blk hr rfl _ _ _ (by rfl) _ (by rfl) (by rfl) (by repeat first | with_reducible first | exact hr | apply Blk.alloc | apply Blk.drew | refine Blk.far ?_ (by simp <;> omega) _ | refine Blk.turn ?_ ‹_› (by omega)) (by rfl) (by kernel_rfl) (by simp [Value.oneCell']) ?_; intro wt hrn ht)
              refine ret_blk2 rfl hrn rfl Tryd.underlying23 rfl (by kernel_rfl) rfl ?_
              exact ⟨by rw [HD.out]; rfl, by (repeat' first | (with_reducible first | exact .refl _ _ | assumption | apply balloc | apply Below.drew | apply bset | refine bstep ?_ ‹_› | refine bturn ?_ ‹_› ?_) | go_size)⟩
            · have hD := decS_ok (b := below) HQ.out (by show ¬ (999999999999 : Int) < (M : Int); rw [← HMM.out]; omega)
              have HD := Lib.hid hD
              clear hD
              cases below
              all_goals
                go_wp2_with (refine wpList_store_blk hr rfl _ _ _ (by rfl) _ (by rfl) (by rfl) (by repeat first | with_reducible first | exact hr | apply Blk.alloc | apply Blk.drew | refine Blk.far ?_ (by simp <;> omega) _ | refine Blk.turn ?_ ‹_› (by omega)) (by rfl) (by kernel_rfl) (by simp [Value.oneCell']) ?_; intro wt hrn ht)
                refine ret_blk2 rfl hrn rfl Tryd.underlying23 rfl (by kernel_rfl) rfl ?_
                exact ⟨by rw [HD.out, HMM.out]; rfl, by (repeat' first | (with_reducible first | exact .refl _ _ | assumption | apply balloc | apply Below.drew | apply bset | refine bstep ?_ ‹_› | refine bturn ?_ ‹_› ?_) | go_size)⟩
          · obtain ⟨i, rfl⟩ : ∃ i, p = i + 1 := ⟨p - 1, by omega⟩
            have ei : ((i + 1 : Nat) : Int) - 1 = i := by omega
            rw [ei]
            clear ei
            have q1 : w2.cell? ⟨w.heap.size + 1 + 1, j + i, none⟩ = some (.int .i64 (dig M i : Int)) := by rw [HMj.out i]; exact HC.out (j + i) (by omega)
            have hd1 := dig_lt M i
            have hlt : i < L := by omega
            have hst := Lib.hid (div_step M i)
            generalize dig M i = d at *
            by_cases hbig : 999999999999 < m
            · have hMM : m ≤ M := by rw [HM.out]; exact Nat.div_le_self _ _
              have hD := decS_big (b := below) HQ.out (by show (999999999999 : Int) < (M : Int); omega)
              have HD := Lib.hid hD
              clear hD hMM
              go_wp2_with (refine wpList_store_blk hr rfl _ _ _ (by rfl) _ (by rfl) (by rfl) (by repeat first | with_reducible first | exact hr | apply Blk.alloc | apply Blk.drew | refine Blk.far ?_ (by simp <;> omega) _ | refine Blk.turn ?_ ‹_› (by omega)) (by rfl) (by kernel_rfl) (by simp [Value.oneCell']) ?_; intro wt hrn ht)
              refine ret_blk2 rfl hrn rfl Tryd.underlying23 rfl (by kernel_rfl) rfl ?_
              exact ⟨by rw [HD.out]; rfl, by (repeat' first | (with_reducible first | exact .refl _ _ | assumption | apply balloc | apply Below.drew | apply bset | refine bstep ?_ ‹_› | refine bturn ?_ ‹_› ?_) | go_size)⟩
            · go_wp2
              go_round
              case rel => exact ⟨i, m * 10 + d, by omega, by go_num, by go_num, by rw [hst.out, ← HM.out], by omega⟩
              case measure => simp [intOf]
end Go.Proofs.YtlmcjnekkhdmiaaDoor
