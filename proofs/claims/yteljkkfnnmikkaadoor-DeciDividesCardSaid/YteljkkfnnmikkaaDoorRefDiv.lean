/- The walk of the reference's Div. -/
import Derived.Test.YteljkkfnnmikkaaDoorRowsA
import Derived.Test.YteljkkfnnmikkaaDoorQuoMath
import Derived.Deep.DeepCutAuto
namespace Go.Proofs.YteljkkfnnmikkaaDoor
open Go.RowKit
attribute [local go_sem high] run_dec_eql run_dec_neq

theorem rdiv_form1 (n s n2 s2 : Int) (HSa : Hid (∀ W, Calls Tryd.prog 13 #[.agg #[.int .i64 n, .int .i64 s]] W fun e w' => e = .returned (.bool false) ∧ Below W.heap.size W w')) (w : World) :
    Calls Tryd.prog 15 #[.agg #[.int .i64 n, .int .i64 s], .agg #[.int .i64 n2, .int .i64 s2]] w fun e w' => e = .returned (.tuple #[.agg #[.int .i64 0, .int .i64 0], .int .i64 2]) ∧ Below w.heap.size w w' := by
  have hb0 := ((Blk.new w 23 #[.int .i64 n, .int .i64 s]).alloc (.cells #[.int .i64 n2, .int .i64 s2] 23)).alloc (.cells #[.int .i64 0, .int .i64 0] 23)
  have hb2 := (Blk.new' (w.alloc (.cells #[.int .i64 n, .int .i64 s] 23)) 23 #[.int .i64 n2, .int .i64 s2] (n := w.heap.size + 1) (by simp)).alloc (.cells #[.int .i64 0, .int .i64 0] 23)
  have hb1 := Blk.new' ((w.alloc (.cells #[.int .i64 n, .int .i64 s] 23)).alloc (.cells #[.int .i64 n2, .int .i64 s2] 23)) 23 #[.int .i64 0, .int .i64 0] (n := w.heap.size + 1 + 1) (by simp)
  go_enter Tryd.func15, Tryd.ntmps15
  go_wp2_with fail
  refine (HSa.out _).mono ?_
  rintro e w1 ⟨rfl, hb⟩
  replace hb0 := hb0.step hb
  replace hb1 := hb1.step hb
  replace hb2 := hb2.step hb
  go_wp2_with (first | (refine wpList_store_blk hb1 rfl _ _ _ (by rfl) _ (by rfl) (by rfl) (by (repeat (first | (with_reducible exact hb1) | (with_reducible refine Blk.alloc ?_ _) | (with_reducible refine Blk.drew ?_) | (with_reducible refine Blk.far ?_ (by first | (simp; done) | (simp; omega)) _) | (with_reducible refine Blk.turn ?_ (by with_reducible assumption) (by omega))))) (by rfl) (by kernel_rfl) (by simp [Value.oneCell']) ?_; intro wt hb1n ht))
  refine ret_blk2 rfl hb1n rfl Tryd.underlying23 rfl (by kernel_rfl) rfl ?_
  exact ⟨rfl, by (repeat' (first | (with_reducible exact Below.refl _ _) | (with_reducible assumption) | (with_reducible refine balloc ?_ _) | (with_reducible refine Below.drew ?_) | (with_reducible refine bset ?_ ?_ _) | (with_reducible refine bstep ?_ (by with_reducible assumption)) | (with_reducible refine bturn ?_ (by with_reducible assumption) ?_) | go_size))⟩

theorem rdiv_form2 (n s n2 s2 : Int) (HSa : Hid (∀ W, Calls Tryd.prog 13 #[.agg #[.int .i64 n, .int .i64 s]] W fun e w' => e = .returned (.bool true) ∧ Below W.heap.size W w')) (HSb : Hid (∀ W, Calls Tryd.prog 13 #[.agg #[.int .i64 n2, .int .i64 s2]] W fun e w' => e = .returned (.bool false) ∧ Below W.heap.size W w')) (w : World) :
    Calls Tryd.prog 15 #[.agg #[.int .i64 n, .int .i64 s], .agg #[.int .i64 n2, .int .i64 s2]] w fun e w' => e = .returned (.tuple #[.agg #[.int .i64 0, .int .i64 0], .int .i64 2]) ∧ Below w.heap.size w w' := by
  have hb0 := ((Blk.new w 23 #[.int .i64 n, .int .i64 s]).alloc (.cells #[.int .i64 n2, .int .i64 s2] 23)).alloc (.cells #[.int .i64 0, .int .i64 0] 23)
  have hb2 := (Blk.new' (w.alloc (.cells #[.int .i64 n, .int .i64 s] 23)) 23 #[.int .i64 n2, .int .i64 s2] (n := w.heap.size + 1) (by simp)).alloc (.cells #[.int .i64 0, .int .i64 0] 23)
  have hb1 := Blk.new' ((w.alloc (.cells #[.int .i64 n, .int .i64 s] 23)).alloc (.cells #[.int .i64 n2, .int .i64 s2] 23)) 23 #[.int .i64 0, .int .i64 0] (n := w.heap.size + 1 + 1) (by simp)
  go_enter Tryd.func15, Tryd.ntmps15
  go_wp2_with fail
  refine (HSa.out _).mono ?_
  rintro e w1 ⟨rfl, hb⟩
  replace hb0 := hb0.step hb
  replace hb1 := hb1.step hb
  replace hb2 := hb2.step hb
  have e0 := hb2.cell 0
  have e1 := hb2.cell 1
  simp at e0 e1
  go_wp2_with fail
  refine (HSb.out _).mono ?_
  rintro e w2 ⟨rfl, hb'⟩
  replace hb0 := hb0.step hb'
  replace hb1 := hb1.step hb'
  replace hb2 := hb2.step hb'
  clear e0 e1
  go_wp2_with (first | (refine wpList_store_blk hb1 rfl _ _ _ (by rfl) _ (by rfl) (by rfl) (by (repeat (first | (with_reducible exact hb1) | (with_reducible refine Blk.alloc ?_ _) | (with_reducible refine Blk.drew ?_) | (with_reducible refine Blk.far ?_ (by first | (simp; done) | (simp; omega)) _) | (with_reducible refine Blk.turn ?_ (by with_reducible assumption) (by omega))))) (by rfl) (by kernel_rfl) (by simp [Value.oneCell']) ?_; intro wt hb1n ht))
  refine ret_blk2 rfl hb1n rfl Tryd.underlying23 rfl (by kernel_rfl) rfl ?_
  exact ⟨rfl, by (repeat' (first | (with_reducible exact Below.refl _ _) | (with_reducible assumption) | (with_reducible refine balloc ?_ _) | (with_reducible refine Below.drew ?_) | (with_reducible refine bset ?_ ?_ _) | (with_reducible refine bstep ?_ (by with_reducible assumption)) | (with_reducible refine bturn ?_ (by with_reducible assumption) ?_) | go_size))⟩

theorem rdiv_zero (n s s2 : Int) (HSa : Hid (∀ W, Calls Tryd.prog 13 #[.agg #[.int .i64 n, .int .i64 s]] W fun e w' => e = .returned (.bool true) ∧ Below W.heap.size W w')) (HSb : Hid (∀ W, Calls Tryd.prog 13 #[.agg #[.int .i64 0, .int .i64 s2]] W fun e w' => e = .returned (.bool true) ∧ Below W.heap.size W w')) (w : World) :
    Calls Tryd.prog 15 #[.agg #[.int .i64 n, .int .i64 s], .agg #[.int .i64 0, .int .i64 s2]] w fun e w' => e = .returned (.tuple #[.agg #[.int .i64 0, .int .i64 0], .int .i64 4]) ∧ Below w.heap.size w w' := by
  have hb0 := ((Blk.new w 23 #[.int .i64 n, .int .i64 s]).alloc (.cells #[.int .i64 0, .int .i64 s2] 23)).alloc (.cells #[.int .i64 0, .int .i64 0] 23)
  have hb2 := (Blk.new' (w.alloc (.cells #[.int .i64 n, .int .i64 s] 23)) 23 #[.int .i64 0, .int .i64 s2] (n := w.heap.size + 1) (by simp)).alloc (.cells #[.int .i64 0, .int .i64 0] 23)
  have hb1 := Blk.new' ((w.alloc (.cells #[.int .i64 n, .int .i64 s] 23)).alloc (.cells #[.int .i64 0, .int .i64 s2] 23)) 23 #[.int .i64 0, .int .i64 0] (n := w.heap.size + 1 + 1) (by simp)
  go_enter Tryd.func15, Tryd.ntmps15
  go_wp2_with fail
  refine (HSa.out _).mono ?_
  rintro e w1 ⟨rfl, hb⟩
  replace hb0 := hb0.step hb
  replace hb1 := hb1.step hb
  replace hb2 := hb2.step hb
  have e0 := hb2.cell 0
  have e1 := hb2.cell 1
  simp at e0 e1
  go_wp2_with fail
  refine (HSb.out _).mono ?_
  rintro e w2 ⟨rfl, hb'⟩
  replace hb0 := hb0.step hb'
  replace hb1 := hb1.step hb'
  replace hb2 := hb2.step hb'
  clear e0 e1
  have e0 := hb2.cell 0
  simp at e0
  go_wp2_with (first | (refine wpList_store_blk hb1 rfl _ _ _ (by rfl) _ (by rfl) (by rfl) (by (repeat (first | (with_reducible exact hb1) | (with_reducible refine Blk.alloc ?_ _) | (with_reducible refine Blk.drew ?_) | (with_reducible refine Blk.far ?_ (by first | (simp; done) | (simp; omega)) _) | (with_reducible refine Blk.turn ?_ (by with_reducible assumption) (by omega))))) (by rfl) (by kernel_rfl) (by simp [Value.oneCell']) ?_; intro wt hb1n ht))
  refine ret_blk2 rfl hb1n rfl Tryd.underlying23 rfl (by kernel_rfl) rfl ?_
  exact ⟨rfl, by (repeat' (first | (with_reducible exact Below.refl _ _) | (with_reducible assumption) | (with_reducible refine balloc ?_ _) | (with_reducible refine Below.drew ?_) | (with_reducible refine bset ?_ ?_ _) | (with_reducible refine bstep ?_ (by with_reducible assumption)) | (with_reducible refine bturn ?_ (by with_reducible assumption) ?_) | go_size))⟩

set_option maxHeartbeats 4000000 in
set_option maxRecDepth 100000 in
theorem rdiv_main (n s n2 s2 : Int) (HSa : Hid (∀ W, Calls Tryd.prog 13 #[.agg #[.int .i64 n, .int .i64 s]] W fun e w' => e = .returned (.bool true) ∧ Below W.heap.size W w')) (HSb : Hid (∀ W, Calls Tryd.prog 13 #[.agg #[.int .i64 n2, .int .i64 s2]] W fun e w' => e = .returned (.bool true) ∧ Below W.heap.size W w')) (A B M X k0 q : Nat) (p p2 : Bool) (r : Res) (hp : decide (n < 0) = p) (hp2 : decide (n2 < 0) = p2)
    (hz : ¬ n2 = 0) (hB0 : 0 < B) (hB1 : B ≤ 999999999999) (hA1 : A ≤ 999999999999) (hM : Hid (A * 10 ^ 20 = M)) (hX : Hid (M / B = X)) (h20 : k0 = 20)
    (k6 : IntKind.i64.wrap (20 + s) = 20 + s) (k7 : IntKind.i64.wrap (20 + s - s2) = (q : Int) + 7)
    (HA : Hid (∀ W, Calls Tryd.prog 33 #[.int .i64 n] W fun e w' => e = .returned (.int .i64 (A : Int)) ∧ W = w'))
    (HB : Hid (∀ W, Calls Tryd.prog 33 #[.int .i64 n2] W fun e w' => e = .returned (.int .i64 (B : Int)) ∧ W = w'))
    (HDc : Hid (∀ g W, Row W g 0 60 (stick M B) → Calls Tryd.prog 34 #[.slice (some ⟨g, 0, none⟩) 60 60, .int .i64 ((q : Int) + 7), .bool (p != p2)] W fun e w' => e = .returned (.tuple #[.agg #[.int .i64 r.n, .int .i64 r.s], .int .i64 r.e]) ∧ Below W.heap.size W w')) (w : World) :
    Calls Tryd.prog 15 #[.agg #[.int .i64 n, .int .i64 s], .agg #[.int .i64 n2, .int .i64 s2]] w fun e w' => e = .returned (.tuple #[.agg #[.int .i64 r.n, .int .i64 r.s], .int .i64 r.e]) ∧ Below w.heap.size w w' := by
  have hmk : ∀ W, (Instr.makeSlice 55 (.int .i64 60) (.int .i64 60)).run Tryd.prog W = .ok (.slice (some ⟨W.heap.size, 0, none⟩) 60 60) (W.alloc (.cells (rowA 0 60) 3)) := fun W => mk_row 60 (by decide) W
  have HG := Lib.hid (rdigits_any A (by omega))
  have hb0 := ((Blk.new w 23 #[.int .i64 n, .int .i64 s]).alloc (.cells #[.int .i64 n2, .int .i64 s2] 23)).alloc (.cells #[.int .i64 0, .int .i64 0] 23)
  have hb2 := (Blk.new' (w.alloc (.cells #[.int .i64 n, .int .i64 s] 23)) 23 #[.int .i64 n2, .int .i64 s2] (n := w.heap.size + 1) (by simp)).alloc (.cells #[.int .i64 0, .int .i64 0] 23)
  have hb1 := Blk.new' ((w.alloc (.cells #[.int .i64 n, .int .i64 s] 23)).alloc (.cells #[.int .i64 n2, .int .i64 s2] 23)) 23 #[.int .i64 0, .int .i64 0] (n := w.heap.size + 1 + 1) (by simp)
  go_enter Tryd.func15, Tryd.ntmps15
  go_wp2_with fail
  refine (HSa.out _).mono ?_
  rintro e w1 ⟨rfl, hb⟩
  replace hb0 := hb0.step hb
  replace hb1 := hb1.step hb
  replace hb2 := hb2.step hb
  have e0 := hb2.cell 0
  have e1 := hb2.cell 1
  simp at e0 e1
  go_wp2_with fail
  refine (HSb.out _).mono ?_
  rintro e w2 ⟨rfl, hb'⟩
  replace hb0 := hb0.step hb'
  replace hb1 := hb1.step hb'
  replace hb2 := hb2.step hb'
  clear e0 e1
  have c0 := hb0.cell 0
  have e0 := hb2.cell 0
  simp at c0 e0
  go_wp2_with fail
  refine (HA.out _).mono ?_
  rintro _ _ ⟨rfl, rfl⟩
  go_wp2_with fail
  refine (HG.out _).mono ?_
  rintro _ w3 ⟨rfl, hx, hb3⟩
  have lx := hb0.lt
  have lx2 := hb2.lt
  have lx1 := hb1.lt
  generalize hgx : w2.heap.size = gx at *
  replace hb0 := hb0.step (w' := w3) (by rw [hgx]; exact hb3)
  replace hb1 := hb1.step (w' := w3) (by rw [hgx]; exact hb3)
  replace hb2 := hb2.step (w' := w3) (by rw [hgx]; exact hb3)
  have hbl : Below w.heap.size w w3 := by subst hgx; (repeat' (first | (with_reducible exact Below.refl _ _) | (with_reducible assumption) | (with_reducible refine balloc ?_ _) | (with_reducible refine Below.drew ?_) | (with_reducible refine bset ?_ ?_ _) | (with_reducible refine bstep ?_ (by with_reducible assumption)) | (with_reducible refine bturn ?_ (by with_reducible assumption) ?_) | go_size))
  clear c0 e0
  have e0 := hb2.cell 0
  simp at e0
  go_wp2_with fail
  refine (HB.out _).mono ?_
  rintro _ _ ⟨rfl, rfl⟩
  have l0 := hb0.lt
  have l1 := hb1.lt
  have l2 := hb2.lt
  have l3 := hx.lt
  have hmk3 := hmk w3
  replace hb0 := hb0.alloc (.cells (rowA 0 60) 3)
  replace hb1 := hb1.alloc (.cells (rowA 0 60) 3)
  replace hb2 := hb2.alloc (.cells (rowA 0 60) 3)
  replace hx := hx.alloc (.cells (rowA 0 60) 3)
  have hrw := Blk.new w3 3 (rowA 0 60)
  have hbl4 : Below w.heap.size w (w3.alloc (.cells (rowA 0 60) 3)) := by (repeat' (first | (with_reducible exact Below.refl _ _) | (with_reducible assumption) | (with_reducible refine balloc ?_ _) | (with_reducible refine Below.drew ?_) | (with_reducible refine bset ?_ ?_ _) | (with_reducible refine bstep ?_ (by with_reducible assumption)) | (with_reducible refine bturn ?_ (by with_reducible assumption) ?_) | go_size))
  generalize hgr : w3.heap.size = gr at *
  have hM32 : M < 10 ^ 32 := by rw [← hM.out, show 10 ^ 32 = 1000000000000 * 10 ^ 20 by decide]; exact Nat.mul_lt_mul_of_pos_right (by omega) (by decide)
  have HM32 := Lib.hid hM32
  have HW := Lib.hid hbl4
  clear hM32 e0 hb hb' hb3 hbl hbl4
  go_wp2_with fail
  go_loopw [9, 10, 11] (fun rv iv _ wr => ∃ k m : Nat, ∃ i0 : Int, k ≤ 32 ∧ i0 = (k : Int) - 1 ∧ iv = .int .i64 i0 ∧ rv = .int .i64 (m : Int) ∧ M / 10 ^ k % B = m ∧ m < B ∧ Blk wr gr 3 (rowA (X / 10 ^ k * 10 ^ k) 60) ∧ Blk wr gx 3 (rowA A 12) ∧ Blk wr w.heap.size 23 #[.int .i64 n, .int .i64 s] ∧ Blk wr (w.heap.size + 1) 23 #[.int .i64 n2, .int .i64 s2] ∧ Blk wr (w.heap.size + 1 + 1) 23 #[.int .i64 0, .int .i64 0] ∧ Below w.heap.size w wr) (fun _ iv _ _ => (intOf iv + 1).toNat)
  case atStart =>
    have hX0 : X / 10 ^ 32 = 0 := by rw [Nat.div_eq_of_lt]; rw [← hX.out]; exact Nat.lt_of_le_of_lt (Nat.div_le_self _ _) HM32.out
    exact ⟨32, 0, 31, by omega, by omega, rfl, rfl, by rw [Nat.div_eq_of_lt HM32.out, Nat.zero_mod], hB0, by rw [hX0, Nat.zero_mul]; exact hrw, hx, hb0, hb2, hb1, HW.out⟩
  case round =>
    obtain ⟨k, m, i0, hk, hi0, rfl, rfl, hm, hmB, KX, KD, KA, KB, KR, hbr⟩ := hrel
    have HMm := Lib.hid hm
    clear hm
    have lX := KX.lt
    by_cases hk0 : k = 0
    · subst hk0
      have hneg : ¬ (0 : Int) ≤ i0 := by omega
      rw [Nat.pow_zero, Nat.div_one, Nat.mul_one] at KX
      have hm0 : M % B = m := by have := HMm.out; rw [Nat.pow_zero, Nat.div_one] at this; exact this
      have cX := (KX.cell 0).trans (rowA_get X (by omega))
      have hd0 : dig X 0 = X % 10 := by unfold dig; rw [Nat.pow_zero, Nat.div_one]
      rw [hd0] at cX
      obtain ⟨d0, hdd⟩ : ∃ d0, X % 10 = d0 := ⟨_, rfl⟩
      rw [hdd] at cX
      have zX := KX.frozen 0
      have hSt : stick M B = X + if 0 < m ∧ d0 = 0 then 1 else 0 := by unfold stick; rw [hX.out, hm0, hdd]
      have HSt := Lib.hid hSt
      have Hdd := Lib.hid hdd
      clear hSt hdd hm0 hd0 hmk hmk3
      have ya := KA.cell 0
      have ya1 := KA.cell 1
      have yb := KB.cell 0
      have yb1 := KB.cell 1
      simp at ya ya1 yb yb1
      by_cases g1 : 0 < m
      · have g1i : (0 : Int) < (m : Int) := by omega
        by_cases g2 : d0 = 0
        · subst g2
          have hS : stick M B = X + 1 := by rw [HSt.out, if_pos ⟨g1, rfl⟩]
          rw [hS] at HDc
          have HKX := Lib.hid (stick_row (X := X) 60 Hdd.out)
          have K2 := KX.set_ 0 (.int .i64 1)
          rw [HKX.out] at K2
          have KA2 := KA.far (p := ⟨gr, 0, none⟩) (by simp; omega) (.int .i64 1)
          have KB2 := KB.far (p := ⟨gr, 0, none⟩) (by simp; omega) (.int .i64 1)
          have KR2 := KR.far (p := ⟨gr, 0, none⟩) (by simp; omega) (.int .i64 1)
          go_upto_region 20 with fail
          clear ya ya1 yb yb1
          have ya := KA2.cell 0
          have ya1 := KA2.cell 1
          have yb := KB2.cell 0
          have yb1 := KB2.cell 1
          simp at ya ya1 yb yb1
          go_wp2_with fail
          refine (HDc.out _ _ (Row.of_blk K2)).mono ?_
          rintro e w4 ⟨rfl, hb4⟩
          have hr := KR2.step hb4
          go_wp2_with (first | (refine wpList_store_blk hr rfl _ _ _ (by rfl) _ (by rfl) (by rfl) (by (repeat (first | (with_reducible exact hr) | (with_reducible refine Blk.alloc ?_ _) | (with_reducible refine Blk.drew ?_) | (with_reducible refine Blk.far ?_ (by first | (simp; done) | (simp; omega)) _) | (with_reducible refine Blk.turn ?_ (by with_reducible assumption) (by omega))))) (by rfl) (by kernel_rfl) (by simp [Value.oneCell']) ?_; intro wt hrn ht))
          refine ret_blk2 rfl hrn rfl Tryd.underlying23 rfl (by kernel_rfl) rfl ?_
          exact ⟨rfl, by (repeat' (first | (with_reducible exact Below.refl _ _) | (with_reducible assumption) | (with_reducible refine balloc ?_ _) | (with_reducible refine Below.drew ?_) | (with_reducible refine bset ?_ ?_ _) | (with_reducible refine bstep ?_ (by with_reducible assumption)) | (with_reducible refine bturn ?_ (by with_reducible assumption) ?_) | go_size))⟩
        · have hS : stick M B = X := by rw [HSt.out, if_neg (fun h => g2 h.2), Nat.add_zero]
          rw [hS] at HDc
          have g2i : ¬ (d0 : Int) = 0 := by omega
          go_wp2_with fail
          refine (HDc.out _ _ (Row.of_blk KX)).mono ?_
          rintro e w4 ⟨rfl, hb4⟩
          have hr := KR.step hb4
          go_wp2_with (first | (refine wpList_store_blk hr rfl _ _ _ (by rfl) _ (by rfl) (by rfl) (by (repeat (first | (with_reducible exact hr) | (with_reducible refine Blk.alloc ?_ _) | (with_reducible refine Blk.drew ?_) | (with_reducible refine Blk.far ?_ (by first | (simp; done) | (simp; omega)) _) | (with_reducible refine Blk.turn ?_ (by with_reducible assumption) (by omega))))) (by rfl) (by kernel_rfl) (by simp [Value.oneCell']) ?_; intro wt hrn ht))
          refine ret_blk2 rfl hrn rfl Tryd.underlying23 rfl (by kernel_rfl) rfl ?_
          exact ⟨rfl, by (repeat' (first | (with_reducible exact Below.refl _ _) | (with_reducible assumption) | (with_reducible refine balloc ?_ _) | (with_reducible refine Below.drew ?_) | (with_reducible refine bset ?_ ?_ _) | (with_reducible refine bstep ?_ (by with_reducible assumption)) | (with_reducible refine bturn ?_ (by with_reducible assumption) ?_) | go_size))⟩
      · have hS : stick M B = X := by rw [HSt.out, if_neg (fun h => g1 h.1), Nat.add_zero]
        rw [hS] at HDc
        have g1i : ¬ (0 : Int) < (m : Int) := by omega
        go_wp2_with fail
        refine (HDc.out _ _ (Row.of_blk KX)).mono ?_
        rintro e w4 ⟨rfl, hb4⟩
        have hr := KR.step hb4
        go_wp2_with (first | (refine wpList_store_blk hr rfl _ _ _ (by rfl) _ (by rfl) (by rfl) (by (repeat (first | (with_reducible exact hr) | (with_reducible refine Blk.alloc ?_ _) | (with_reducible refine Blk.drew ?_) | (with_reducible refine Blk.far ?_ (by first | (simp; done) | (simp; omega)) _) | (with_reducible refine Blk.turn ?_ (by with_reducible assumption) (by omega))))) (by rfl) (by kernel_rfl) (by simp [Value.oneCell']) ?_; intro wt hrn ht))
        refine ret_blk2 rfl hrn rfl Tryd.underlying23 rfl (by kernel_rfl) rfl ?_
        exact ⟨rfl, by (repeat' (first | (with_reducible exact Below.refl _ _) | (with_reducible assumption) | (with_reducible refine balloc ?_ _) | (with_reducible refine Below.drew ?_) | (with_reducible refine bset ?_ ?_ _) | (with_reducible refine bstep ?_ (by with_reducible assumption)) | (with_reducible refine bturn ?_ (by with_reducible assumption) ?_) | go_size))⟩
    · obtain ⟨j, rfl⟩ : ∃ j, k = j + 1 := ⟨k - 1, by omega⟩
      obtain rfl : i0 = (j : Int) := by omega
      clear hi0
      obtain ⟨s1, s2'⟩ := ldiv_step (M := M) j hB0
      rw [hX.out, HMm.out] at s1
      rw [HMm.out] at s2'
      have cX := (KX.cell j).trans (rowA_get _ (by omega))
      have zX := KX.frozen j
      have lD := KD.lt
      have hd := dig_lt M j
      obtain ⟨d, hdd⟩ : ∃ d, dig M j = d := ⟨_, rfl⟩
      rw [hdd] at s1 s2' hd
      obtain ⟨Q, hQ⟩ : ∃ Q, (m * 10 + d) / B = Q := ⟨_, rfl⟩
      obtain ⟨m', hm'⟩ : ∃ m', (m * 10 + d) % B = m' := ⟨_, rfl⟩
      rw [hQ] at s1
      rw [hm'] at s2'
      have hm'B : m' < B := by rw [← hm']; exact Nat.mod_lt _ hB0
      have hQ10 : Q < 10 := by rw [← hQ, Nat.div_lt_iff_lt_mul hB0]; omega
      have f1 : ((m : Int) * 10 + (d : Int)) / (B : Int) = (Q : Int) := by rw [← hQ]; rfl
      have f2 : ((m : Int) * 10 + (d : Int)) % (B : Int) = (m' : Int) := by rw [← hm']; rfl
      have hBz : ¬ (B : Int) = 0 := by omega
      have qw : IntKind.i64.wrap (Q : Int) = (Q : Int) := IntWalk.i64_in _ (by omega)
      have HR := Lib.hid (rowA_down (n := 60) (show (dig X j : Int) = (Q : Int) by rw [s1]))
      have HS2 := Lib.hid s2'
      clear s1 s2' hQ hm' hmk hmk3 hk0
      have KR2 := KR.far (p := ⟨gr, j, none⟩) (by simp; omega) (.int .i64 (Q : Int))
      have KA2 := KA.far (p := ⟨gr, j, none⟩) (by simp; omega) (.int .i64 (Q : Int))
      have KB2 := KB.far (p := ⟨gr, j, none⟩) (by simp; omega) (.int .i64 (Q : Int))
      have KD2 := KD.far (p := ⟨gr, j, none⟩) (by simp; omega) (.int .i64 (Q : Int))
      have KX2 := KX.set_ j (.int .i64 (Q : Int))
      rw [HR.out] at KX2
      have KK := Lib.hid (And.intro KX2 (And.intro KD2 (And.intro KA2 (And.intro KB2 KR2))))
      clear KX2 KD2 KA2 KB2 KR2
      by_cases h20j : 20 ≤ j
      · obtain ⟨t, ht⟩ : ∃ t, j = t + 20 := ⟨j - 20, by omega⟩
        have hdt : dig A t = d := by rw [← hdd, ← hM.out, dig_mul_ge h20j, ht, Nat.add_sub_cancel]
        have cD := (KD.cell t).trans (rowA_get A (by omega))
        rw [hdt] at cD
        have hidx : (j : Int) - 20 = (t : Int) := by omega
        have ht12 : (t : Int) < 12 := by omega
        have tw : IntKind.i64.wrap (t : Int) = (t : Int) := IntWalk.i64_in _ (by omega)
        have g20 : (20 : Int) ≤ (j : Int) := by omega
        clear hdd hdt ht
        go_wp2_with fail
        go_roundw
        case rel => exact ⟨j, m', (j : Int) - 1, by omega, rfl, by go_num, by go_num, HS2.out, hm'B, KK.out.1, KK.out.2.1, KK.out.2.2.1, KK.out.2.2.2.1, KK.out.2.2.2.2, by (repeat' (first | (with_reducible exact Below.refl _ _) | (with_reducible assumption) | (with_reducible refine balloc ?_ _) | (with_reducible refine Below.drew ?_) | (with_reducible refine bset ?_ ?_ _) | (with_reducible refine bstep ?_ (by with_reducible assumption)) | (with_reducible refine bturn ?_ (by with_reducible assumption) ?_) | go_size))⟩
        case measure => simp [intOf]
      · have hd0 : d = 0 := by rw [← hdd, ← hM.out]; exact dig_mul_lt (by omega)
        subst hd0
        simp only [Int.ofNat_zero, Int.natCast_zero, Int.add_zero] at f1 f2
        have g20 : ¬ (20 : Int) ≤ (j : Int) := by omega
        clear hdd
        go_wp2_with fail
        go_roundw
        case rel => exact ⟨j, m', (j : Int) - 1, by omega, rfl, by go_num, by go_num, HS2.out, hm'B, KK.out.1, KK.out.2.1, KK.out.2.2.1, KK.out.2.2.2.1, KK.out.2.2.2.2, by (repeat' (first | (with_reducible exact Below.refl _ _) | (with_reducible assumption) | (with_reducible refine balloc ?_ _) | (with_reducible refine Below.drew ?_) | (with_reducible refine bset ?_ ?_ _) | (with_reducible refine bstep ?_ (by with_reducible assumption)) | (with_reducible refine bturn ?_ (by with_reducible assumption) ?_) | go_size))⟩
        case measure => simp [intOf]
end Go.Proofs.YteljkkfnnmikkaaDoor
