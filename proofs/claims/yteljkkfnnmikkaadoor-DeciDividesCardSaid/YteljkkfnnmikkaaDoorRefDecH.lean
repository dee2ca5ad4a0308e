/- The walk of the reference's dec: more than six digits behind the point. -/
import Derived.Test.YteljkkfnnmikkaaDoorRefDec
import Derived.Deep.DeepCutAuto
namespace Go.Proofs.YteljkkfnnmikkaaDoor
open Go.RowKit

set_option maxHeartbeats 4000000 in
set_option maxRecDepth 100000 in
theorem rdec_high (g o c X q : Nat) (below : Bool) (w : World) (hX : X < 10 ^ 40) (hq : q ≤ 19) (h : Row w g o 60 X) (hc : 60 ≤ c) :
    Calls Tryd.prog 34 #[.slice (some ⟨g, o, none⟩) 60 c, .int .i64 ((q : Int) + 7), .bool below] w fun e w' => e = .returned (.tuple #[.agg #[.int .i64 (decS 6 (even10 X (q + 1)) below).n, .int .i64 (decS 6 (even10 X (q + 1)) below).s], .int .i64 (decS 6 (even10 X (q + 1)) below).e]) ∧ Below w.heap.size w w' := by
  obtain ⟨U, hU, hU1, hU2⟩ : ∃ U : Nat, U = (if 5 < dig X q ∨ dig X q = 5 ∧ (¬ X % 10 ^ q = 0 ∨ dig X (q + 1) % 2 = 1) then 1 else 0) ∧ even10 X (q + 1) = X / 10 ^ (q + 1) + U ∧ U ≤ 1 := by
    refine ⟨_, rfl, ?_, by split <;> omega⟩
    unfold even10
    simp only [even10_digits]
  generalize hYe : even10 X (q + 1) = Y at *
  have HYe := Lib.hid hU1
  have HU := Lib.hid hU
  have hrow := h.step (w' := w.alloc (.cells #[.int .i64 0, .int .i64 0] 23)) (by (repeat' (first | (with_reducible exact Below.refl _ _) | (with_reducible assumption) | (with_reducible refine balloc ?_ _) | (with_reducible refine Below.drew ?_) | (with_reducible refine bset ?_ ?_ _) | (with_reducible refine bstep ?_ (by with_reducible assumption)) | (with_reducible refine bturn ?_ (by with_reducible assumption) ?_) | go_size)))
  have HR := Lib.hid hrow
  have e1 : (q : Int) + 7 - 6 = q + 1 := by omega
  clear hU1 hU hYe h hrow
  go_enter Tryd.func34, Tryd.ntmps34
  go_wp2_with fail
  go_loop [10, 11] (fun r i => ∃ k m : Nat, k ≤ q ∧ i = .int .i64 (k : Int) ∧ r = .int .i64 (m : Int) ∧ (m = 0 ↔ X % 10 ^ k = 0) ∧ m ≤ 9 * k) (fun _ i => q - (intOf i).toNat)
  case atStart => exact ⟨0, 0, by omega, rfl, rfl, by simp [Nat.mod_one], by omega⟩
  case round =>
    obtain ⟨k, m, hk, rfl, rfl, hm, hm1⟩ := hrel
    have HM := Lib.hid hm
    clear hm
    by_cases hlt : k < q
    · have q0 := HR.out k (by omega)
      have hd := dig_lt X k
      have HS := Lib.hid (mod_succ X k)
      have ht := t10 k
      generalize dig X k = d at *
      go_wp2
      go_round
      case rel => exact ⟨k + 1, m + d, by omega, by go_num, by go_num, by
        rw [HS.out]
        have h1 := HM.out
        constructor
        · intro h0
          have h2 : m = 0 := by omega
          have h3 : d = 0 := by omega
          rw [h1.1 h2, h3, Nat.mul_zero]
        · intro h0
          have h2 : X % 10 ^ k = 0 := by omega
          have h3 : 10 ^ k * d = 0 := by omega
          rcases Nat.mul_eq_zero.1 h3 with h4 | h4
          · omega
          · have := h1.2 h2; omega, by omega⟩
      case measure => simp [intOf]; omega
    · obtain rfl : k = q := by omega
      have q0 := HR.out k (by omega)
      have q1 := HR.out (k + 1) (by omega)
      have hd0 := dig_lt X k
      have hd1 := dig_lt X (k + 1)
      generalize hv5 : dig X k = v5 at *
      generalize hvo : dig X (k + 1) = vo at *
      clear hv5 hvo
      go_upto_region 11 with fail
      go_cut [10, 12, 13, 56] (fun _ _ _ t wx => t = .bool (decide (5 < v5 ∨ v5 = 5 ∧ (¬ m = 0 ∨ vo % 2 = 1))) ∧ wx = w.alloc (.cells #[.int .i64 0, .int .i64 0] 23))
      case first =>
        by_cases g1 : 5 < v5
        · have E := Lib.hid (show decide (5 < v5 ∨ v5 = 5 ∧ (¬ m = 0 ∨ vo % 2 = 1)) = true from by simp; omega)
          go_wp2
          go_meet
          case rel => exact ⟨by first | (rw [E.out]; done) | (rw [E.out]; simp; omega), rfl⟩
        · by_cases g2 : v5 = 5
          · subst g2
            by_cases g3 : m = 0
            · subst g3
              by_cases g4 : vo % 2 = 1
              · have E := Lib.hid (show decide (5 < 5 ∨ 5 = 5 ∧ (¬ 0 = 0 ∨ vo % 2 = 1)) = true from by simp; omega)
                have g5 : (vo : Int) % 2 = 1 := by omega
                clear g4
                go_wp2
                go_meet
                case rel => exact ⟨by first | (rw [E.out]; done) | (rw [E.out]; simp; omega), rfl⟩
              · have E := Lib.hid (show decide (5 < 5 ∨ 5 = 5 ∧ (¬ 0 = 0 ∨ vo % 2 = 1)) = false from by simp; omega)
                have g5 : (vo : Int) % 2 = 0 := by omega
                clear g4
                go_wp2
                go_meet
                case rel => exact ⟨by first | (rw [E.out]; done) | (rw [E.out]; simp; omega), rfl⟩
            · have g6 : 0 < m := by omega
              have E := Lib.hid (show decide (5 < 5 ∨ 5 = 5 ∧ (¬ m = 0 ∨ vo % 2 = 1)) = true from by simp; omega)
              go_wp2
              go_meet
              case rel => exact ⟨by first | (rw [E.out]; done) | (rw [E.out]; simp; omega), rfl⟩
          · have E := Lib.hid (show decide (5 < v5 ∨ v5 = 5 ∧ (¬ m = 0 ∨ vo % 2 = 1)) = false from by simp; omega)
            have g2' : ((v5 : Int) == 5) = false := by simp; omega
            go_wp2
            go_meet
            case rel => exact ⟨by first | (rw [E.out]; done) | (rw [E.out]; simp; omega), rfl⟩
      case rest =>
        obtain ⟨rfl, rfl⟩ := hcut
        have hUB : U = if decide (5 < v5 ∨ v5 = 5 ∧ (¬ m = 0 ∨ vo % 2 = 1)) = true then 1 else 0 := by
          rw [HU.out]
          have h1 := HM.out
          by_cases h2 : m = 0
          · simp [h2, h1.1 h2]
          · simp [h2, mt h1.2 h2]
        generalize decide (5 < v5 ∨ v5 = 5 ∧ (¬ m = 0 ∨ vo % 2 = 1)) = B at *
        have HUB := Lib.hid hUB
        clear hUB hd0 hd1 q0 q1
        go_upto_if 56 with fail
        go_cut [9] (fun u wx => u = .int .i64 (U : Int) ∧ wx = w.alloc (.cells #[.int .i64 0, .int .i64 0] 23))
        case first =>
          cases B
          · have hu0 : U = 0 := by rw [HUB.out]; rfl
            go_wp2
            go_meet
            case rel => exact ⟨by rw [hu0]; rfl, rfl⟩
          · have hu0 : U = 1 := by rw [HUB.out]; rfl
            have HU0 := Lib.hid hu0
            clear hu0
            go_wp2
            go_meet
            case rel => exact ⟨by rw [HU0.out]; rfl, rfl⟩
        case rest =>
          obtain ⟨rfl, rfl⟩ := hcut
          have hrw := HR.out.drop (k + 1) (by omega)
          have hY : Y < 10 ^ (59 - k) := by
            have h1 : X / 10 ^ (k + 1) ≤ X / 10 := Nat.div_le_div_left (by rw [Nat.pow_succ]; have := t10 k; omega) (by decide)
            have h2 : (10 : Nat) ^ 40 ≤ 10 ^ (59 - k) := Nat.pow_le_pow_right (by decide) (by omega)
            have h3 := HYe.out
            omega
          have hn1 : 40 ≤ 59 - k := by omega
          have hn2 : 59 - k ≤ 59 := by omega
          rw [show 60 - (k + 1) = 59 - k by omega] at hrw
          obtain ⟨N, h59⟩ : ∃ N, 59 - k = N := ⟨_, rfl⟩
          rw [h59] at hrw hY hn1 hn2
          have hmk := mk_row N (by omega)
          have hg0 : (rowA 0 N)[0]? = some (.int .i64 0) := rowA_get 0 (by omega)
          have hs0 : (rowA 0 N).setIfInBounds 0 (.int .i64 (U : Int)) = rowA U N := rowA_one hU2
          have hn0 : (0 : Int) < (N : Int) := by omega
          have HRW := Lib.hid hrw
          have hone := Blk.new' (w.alloc (.cells #[.int .i64 0, .int .i64 0] 23)) 3 (rowA U N) (n := w.heap.size + 1) (by simp)
          have HO := Lib.hid hone
          have hr := (Blk.new w 23 #[.int .i64 0, .int .i64 0]).alloc (.cells (rowA U N) 3)
          have HY := Lib.hid hY
          clear hY hm1 HM hlt hk hq
          clear hrw hone hX
          go_wp2_with fail
          refine (rplus_at g (o + (k + 1)) (c - (k + 1)) (w.heap.size + 1) 0 N N (X / 10 ^ (k + 1)) U (w.heap.size + 1 + 1) _ (by simp) (by omega) (HRW.out.step (by (repeat' (first | (with_reducible exact Below.refl _ _) | (with_reducible assumption) | (with_reducible refine balloc ?_ _) | (with_reducible refine Below.drew ?_) | (with_reducible refine bset ?_ ?_ _) | (with_reducible refine bstep ?_ (by with_reducible assumption)) | (with_reducible refine bturn ?_ (by with_reducible assumption) ?_) | go_size)))) (Row.of_blk HO.out)).mono ?_
          rintro e w2 ⟨rfl, hB, hb2⟩
          replace hr : Blk w2 w.heap.size 23 #[.int .i64 0, .int .i64 0] := hr.step hb2
          have hbl : Below w.heap.size w w2 := by (repeat' (first | (with_reducible exact Below.refl _ _) | (with_reducible assumption) | (with_reducible refine balloc ?_ _) | (with_reducible refine Below.drew ?_) | (with_reducible refine bset ?_ ?_ _) | (with_reducible refine bstep ?_ (by with_reducible assumption)) | (with_reducible refine bturn ?_ (by with_reducible assumption) ?_) | go_size))
          rw [← HYe.out] at hB
          clear hb2 hg0 hmk HR HRW HO hs0 hn0 e1 h59
          have hcell := fun j (hj : j < N) => (hB.cell j).trans (rowA_get Y hj)
          have HC := Lib.hid hcell
          have hlB := hB.lt
          clear hcell hB
          go_wp2_with fail
          go_loop [0, 1] (fun v x => ∃ j L kk : Nat, L + j = N ∧ v = .slice (some ⟨w.heap.size + 1 + 1, j, none⟩) L L ∧ x = .int .i64 (kk : Int) ∧ kk + j = 6 ∧ short 6 (Y : Int) = short kk ((Y / 10 ^ j : Nat) : Int)) (fun _ x => (intOf x).toNat)
          case atStart => exact ⟨0, N, 6, rfl, rfl, rfl, rfl, by simp⟩
          case round =>
            obtain ⟨j, L, kk, hj, rfl, rfl, hkj, hs⟩ := hrel
            have HS := Lib.hid hs
            have hL1 : 34 ≤ L := by omega
            have hL2 : L ≤ 60 := by omega
            have q0 : w2.cell? ⟨w.heap.size + 1 + 1, j, none⟩ = some (.int .i64 (dig Y j : Int)) := HC.out j (by omega)
            clear hs
            have hd := dig_lt Y j
            by_cases hgo : 0 < kk ∧ dig Y j = 0
            · obtain ⟨hk0, hz⟩ := hgo
              have HZ := Lib.hid hz
              rw [hz] at q0
              clear hz hd
              go_wp2
              go_round
              case rel => exact ⟨j + 1, L - 1, kk - 1, by omega, rfl, by go_num, by omega, by
                rw [HS.out]
                obtain ⟨i, rfl⟩ : ∃ i, kk = i + 1 := ⟨kk - 1, by omega⟩
                rw [short_nat i _ (by rw [dig_shift]; exact HZ.out), Nat.add_sub_cancel, div_succ]⟩
              case measure => simp [intOf]; omega
            · have hstop : kk = 0 ∨ ¬ dig Y j = 0 := by omega
              have hq : short 6 (Y : Int) = (((Y / 10 ^ j : Nat) : Int), (kk : Int)) := by
                rw [HS.out, short_nat_stop]
                rw [dig_shift]
                exact hstop
              have HQ := Lib.hid hq
              have hMj : ∀ p, dig (Y / 10 ^ j) p = dig Y (j + p) := fun p => by rw [dig_div, Nat.add_comm]
              have HMj := Lib.hid hMj
              have hM : Y / 10 ^ j < 10 ^ L := by
                rw [Nat.div_lt_iff_lt_mul (t10 j), ← Nat.pow_add, hj]
                exact HY.out
              have HM0 := Lib.hid hM
              clear hq hMj hM HS
              generalize hMe : Y / 10 ^ j = M at *
              generalize hdv : dig Y j = dv at *
              clear hMe hdv
              rcases (show kk = 0 ∨ (0 < kk ∧ ¬ dv = 0) by omega) with rfl | ⟨hk0, hnz⟩
              all_goals
                go_wp2
                go_loop [15, 16] (fun a i => ∃ p m : Nat, p ≤ L ∧ i = .int .i64 ((p : Int) - 1) ∧ a = .int .i64 (m : Int) ∧ m = M / 10 ^ p ∧ m ≤ 10000000000000) (fun _ i => (intOf i + 1).toNat)
                case atStart => exact ⟨L, 0, by omega, rfl, rfl, by rw [Nat.div_eq_of_lt HM0.out], by omega⟩
                case round =>
                  obtain ⟨p, m, hp, rfl, rfl, hm, hm1⟩ := hrel
                  have HM := Lib.hid hm
                  clear hm
                  by_cases hz : p = 0
                  · subst hz
                    have hmM : m = M := by rw [HM.out]; simp
                    have HMM := Lib.hid hmM
                    clear hmM
                    by_cases hbig : 999999999999 < m
                    · have hD := decS_big (b := below) HQ.out (by show (999999999999 : Int) < (M : Int); rw [← HMM.out]; omega)
                      have HD := Lib.hid hD
                      clear hD
                      go_wp2_with (refine wpList_store_blk hr rfl _ _ _ (by rfl) _ (by rfl) (by rfl) (by (repeat (first | (with_reducible exact hr) | (with_reducible refine Blk.alloc ?_ _) | (with_reducible refine Blk.drew ?_) | (with_reducible refine Blk.far ?_ (by first | (simp; done) | (simp; omega)) _) | (with_reducible refine Blk.turn ?_ (by with_reducible assumption) (by omega))))) (by rfl) (by kernel_rfl) (by simp [Value.oneCell']) ?_; intro wt hrn ht)
                      refine ret_blk2 rfl hrn rfl Tryd.underlying23 rfl (by kernel_rfl) rfl ?_
                      exact ⟨by rw [HD.out]; rfl, by (repeat' (first | (with_reducible exact Below.refl _ _) | (with_reducible assumption) | (with_reducible refine balloc ?_ _) | (with_reducible refine Below.drew ?_) | (with_reducible refine bset ?_ ?_ _) | (with_reducible refine bstep ?_ (by with_reducible assumption)) | (with_reducible refine bturn ?_ (by with_reducible assumption) ?_) | go_size))⟩
                    · have hD := decS_ok (b := below) HQ.out (by show ¬ (999999999999 : Int) < (M : Int); rw [← HMM.out]; omega)
                      have HD := Lib.hid hD
                      clear hD
                      cases below
                      all_goals
                        go_wp2_with (refine wpList_store_blk hr rfl _ _ _ (by rfl) _ (by rfl) (by rfl) (by (repeat (first | (with_reducible exact hr) | (with_reducible refine Blk.alloc ?_ _) | (with_reducible refine Blk.drew ?_) | (with_reducible refine Blk.far ?_ (by first | (simp; done) | (simp; omega)) _) | (with_reducible refine Blk.turn ?_ (by with_reducible assumption) (by omega))))) (by rfl) (by kernel_rfl) (by simp [Value.oneCell']) ?_; intro wt hrn ht)
                        refine ret_blk2 rfl hrn rfl Tryd.underlying23 rfl (by kernel_rfl) rfl ?_
                        exact ⟨by rw [HD.out, HMM.out]; rfl, by (repeat' (first | (with_reducible exact Below.refl _ _) | (with_reducible assumption) | (with_reducible refine balloc ?_ _) | (with_reducible refine Below.drew ?_) | (with_reducible refine bset ?_ ?_ _) | (with_reducible refine bstep ?_ (by with_reducible assumption)) | (with_reducible refine bturn ?_ (by with_reducible assumption) ?_) | go_size))⟩
                  · obtain ⟨i, rfl⟩ : ∃ i, p = i + 1 := ⟨p - 1, by omega⟩
                    have ei : ((i + 1 : Nat) : Int) - 1 = i := by omega
                    rw [ei]
                    clear ei
                    have q1 : w2.cell? ⟨w.heap.size + 1 + 1, j + i, none⟩ = some (.int .i64 (dig M i : Int)) := by rw [HMj.out i]; exact HC.out (j + i) (by omega)
                    have hd1 := dig_lt M i
                    have hlt : i < L := by omega
                    have hst := Lib.hid (div_step M i)
                    generalize dig M i = d at *
                    by_cases hbig : 999999999999 < m
                    · have hMM : m ≤ M := by rw [HM.out]; exact Nat.div_le_self _ _
                      have hD := decS_big (b := below) HQ.out (by show (999999999999 : Int) < (M : Int); omega)
                      have HD := Lib.hid hD
                      clear hD hMM
                      go_wp2_with (refine wpList_store_blk hr rfl _ _ _ (by rfl) _ (by rfl) (by rfl) (by (repeat (first | (with_reducible exact hr) | (with_reducible refine Blk.alloc ?_ _) | (with_reducible refine Blk.drew ?_) | (with_reducible refine Blk.far ?_ (by first | (simp; done) | (simp; omega)) _) | (with_reducible refine Blk.turn ?_ (by with_reducible assumption) (by omega))))) (by rfl) (by kernel_rfl) (by simp [Value.oneCell']) ?_; intro wt hrn ht)
                      refine ret_blk2 rfl hrn rfl Tryd.underlying23 rfl (by kernel_rfl) rfl ?_
                      exact ⟨by rw [HD.out]; rfl, by (repeat' (first | (with_reducible exact Below.refl _ _) | (with_reducible assumption) | (with_reducible refine balloc ?_ _) | (with_reducible refine Below.drew ?_) | (with_reducible refine bset ?_ ?_ _) | (with_reducible refine bstep ?_ (by with_reducible assumption)) | (with_reducible refine bturn ?_ (by with_reducible assumption) ?_) | go_size))⟩
                    · go_wp2
                      go_round
                      case rel => exact ⟨i, m * 10 + d, by omega, by go_num, by go_num, by rw [hst.out, ← HM.out], by omega⟩
                      case measure => simp [intOf]
end Go.Proofs.YteljkkfnnmikkaaDoor
