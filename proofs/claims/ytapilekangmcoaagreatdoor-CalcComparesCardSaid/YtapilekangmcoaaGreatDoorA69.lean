/- The walks of the reference's rows of digits: minus, less. -/
import Derived.Test.YtapilekangmcoaaGreatDoorA14
set_option linter.unusedVariables false
set_option linter.unusedSimpArgs false
set_option maxHeartbeats 8000000
set_option maxRecDepth 100000
namespace Go.Proofs.YtapilekangmcoaaGreatDoor.Dq
open Go.RowKit
set_option maxHeartbeats 1000000 in
theorem rless_any (ga oa ca gb ob cb n a b : Nat) (w : World) (hn : n ≤ 60) (ha : Row w ga oa n a) (hb : Row w gb ob n b) (ha1 : a < 10 ^ n) (hb1 : b < 10 ^ n) :
   Calls Tryz.prog 106 #[.slice (some ⟨ga, oa, none⟩) n ca, .slice (some ⟨gb, ob, none⟩) n cb] w fun e w' => e = .returned (.bool (decide (a < b))) ∧ Below w.heap.size w w' := by
 have h0 : a / 10 ^ n = b / 10 ^ n := by rw [Nat.div_eq_of_lt ha1, Nat.div_eq_of_lt hb1]
 have H0 := Lib.hid h0
 clear ha1 hb1 h0
 go_enter Tryz.func106, Tryz.ntmps106
 go_wp2
 go_loopw [5] (fun i wr => ∃ k : Nat, k ≤ n ∧ i = .int .i64 ((k : Int) - 1) ∧ a / 10 ^ k = b / 10 ^ k ∧ Below w.heap.size w wr) (fun i _ => (intOf i + 1).toNat)
 case atStart => exact ⟨n, by omega, rfl, H0.out, by (repeat' first | (with_reducible first | exact .refl _ _ | assumption | apply balloc | apply Below.drew | apply bset | refine bstep ?_ ‹_› | refine bturn ?_ ‹_› ?_) | go_size)⟩
 case round =>
   obtain ⟨k, hk, rfl, hm, hbl⟩ := hrel
   by_cases hz : k = 0
   · subst hz
     have e : decide (a < b) = false := by simp at hm; simp; omega
     have E := Lib.hid e
     clear e hm
     go_wp2
     go_ret
     exact ⟨by rw [E.out]; rfl, by (repeat' first | (with_reducible first | exact .refl _ _ | assumption | apply balloc | apply Below.drew | apply bset | refine bstep ?_ ‹_› | refine bturn ?_ ‹_› ?_) | go_size)⟩
   · obtain ⟨j, rfl⟩ : ∃ j, k = j + 1 := ⟨k - 1, by omega⟩
     have ej : ((j + 1 : Nat) : Int) - 1 = j := by omega
     rw [ej]
     have qa := (ha.step hbl) j (by omega)
     have qb := (hb.step hbl) j (by omega)
     have da := dig_lt a j
     have db := dig_lt b j
     have HM := Lib.hid hm
     clear hm ej
     by_cases hd : dig a j = dig b j
     · have HD := Lib.hid hd
       rw [hd] at qa
       clear hd
       go_wp2
       go_region
       go_wp2
       go_roundw
       case rel => exact ⟨j, by omega, by go_num, less_same HM.out HD.out, by (repeat' first | (with_reducible first | exact .refl _ _ | assumption | apply balloc | apply Below.drew | apply bset | refine bstep ?_ ‹_› | refine bturn ?_ ‹_› ?_) | go_size)⟩
       case measure => simp [intOf]
     · have e : decide (dig a j < dig b j) = decide (a < b) := by simp only [less_step HM.out hd]
       have E := Lib.hid e
       clear e
       generalize dig a j = x at *
       generalize dig b j = y at *
       have hd' : ¬ (x : Int) = y := by omega
       go_wp2
       go_region
       go_wp2
       go_region
       go_wp2
       go_ret
       exact ⟨by rw [← E.out]; simp, by (repeat' first | (with_reducible first | exact .refl _ _ | assumption | apply balloc | apply Below.drew | apply bset | refine bstep ?_ ‹_› | refine bturn ?_ ‹_› ?_) | go_size)⟩
/-- The row of a number: its digits, 12 behind the point. t: 12 less its scale. -/
theorem long_at (n s : Int) (N t : Nat) (w : World) (b3 : -999999999999 ≤ n) (b4 : n ≤ 999999999999) (hN : mag n = (N : Int)) (hs : s = 12 - (t : Int)) (t0 : 6 ≤ t) (t1 : t ≤ 12) (r : Nat) (hr : w.heap.size + 1 = r) :
   Calls Tryz.prog 107 #[.agg #[.int .i64 n, .int .i64 s]] w fun e w' => e = .returned (.slice (some ⟨r, 0, none⟩) 60 60) ∧ Blk w' r 3 (rowA (N * 10 ^ t) 60) ∧ Below w.heap.size w w' := by
 subst hr
 have hmk : ∀ W, (Instr.makeSlice 107 (.int .i64 60) (.int .i64 60)).run Tryz.prog W = .ok (.slice (some ⟨W.heap.size, 0, none⟩) 60 60) (W.alloc (.cells (rowA 0 60) 3)) := fun W => mk_row 60 (by decide) W
 have hm1 := mag_bd b3 b4
 have hNb : N < 1000000000000 := by omega
 have hz := rsize_any n (by omega) (by omega)
 rw [hN] at hz
 have HZ := Lib.hid hz
 have HG := Lib.hid (rdigits_any N hNb)
 have hb0 := (Blk.new w 23 #[.int .i64 n, .int .i64 s]).alloc (.cells (rowA 0 60) 3)
 have hb1 := Blk.new' (w.alloc (.cells #[.int .i64 n, .int .i64 s] 23)) 3 (rowA 0 60) (n := w.heap.size + 1) (by simp)
 have HS := Lib.hid hs
 clear hm1 hN hz hs
 go_enter Tryz.func107, Tryz.ntmps107
 go_wp2_with fail
 refine (HZ.out _).mono ?_
 rintro _ _ ⟨rfl, rfl⟩
 go_wp2_with fail
 refine (HG.out _).mono ?_
 rintro _ w2 ⟨rfl, hB, hb2⟩
 replace hb0 := hb0.step hb2
 replace hb1 := hb1.step hb2
 have hbl : Below w.heap.size w w2 := by (repeat' first | (with_reducible first | exact .refl _ _ | assumption | apply balloc | apply Below.drew | apply bset | refine bstep ?_ ‹_› | refine bturn ?_ ‹_› ?_) | go_size)
 simp only [World.size_alloc] at hB
 have HB := Lib.hid hB
 clear hB hmk
 go_wp2_with fail
 go_loopw [5] (fun i wr => ∃ k : Nat, k ≤ 12 ∧ i = .int .i64 (k : Int) ∧ Blk wr w.heap.size 23 #[.int .i64 n, .int .i64 s] ∧ Blk wr (w.heap.size + 1) 3 (rowA (N % 10 ^ k * 10 ^ t) 60) ∧ Blk wr (w.heap.size + 1 + 1) 3 (rowA N 12) ∧ Below w.heap.size w wr) (fun i _ => 12 - (intOf i).toNat)
 case atStart => exact ⟨0, by omega, rfl, hb0, by rw [Nat.pow_zero, Nat.mod_one, Nat.zero_mul]; exact hb1, by simpa using HB.out, hbl⟩
 case round =>
   obtain ⟨k, hk, rfl, h0, h1, h2, hbr⟩ := hrel
   have l0 := h0.lt
   have l1 := h1.lt
   have l2 := h2.lt
   by_cases hlt : k < 12
   · have c1 := h0.cell 1
     simp at c1
     have c2 := (h2.cell k).trans (rowA_get N hlt)
     have c3 := (h1.cell (k + t)).trans (rowA_get _ (by omega))
     have z3 := h1.frozen (k + t)
     have hidx : (k : Int) + 12 - s = ((k + t : Nat) : Int) := by rw [HS.out]; omega
     have hkt : ((k + t : Nat) : Int) < 60 := by omega
     have hkt0 : (0 : Int) ≤ ((k + t : Nat) : Int) := by omega
     have kw : IntKind.i64.wrap ((k : Int) + 12) = (k : Int) + 12 := IntWalk.i64_in _ (by omega)
     have kw2 : IntKind.i64.wrap (((k + t : Nat) : Int)) = ((k + t : Nat) : Int) := IntWalk.i64_in _ (by omega)
     go_wp2_with fail
     go_region
     go_wp2
     go_roundw
     case rel => exact ⟨k + 1, by omega, by go_num, (h0.far (by simp) _).drew, by
       have := (h1.set_ (k + t) (.int .i64 (dig N k : Int))).drew
       rw [rowA_high rfl] at this
       exact this, (h2.far (by simp) _).drew, by (repeat' first | (with_reducible first | exact .refl _ _ | assumption | apply balloc | apply Below.drew | apply bset | refine bstep ?_ ‹_› | refine bturn ?_ ‹_› ?_) | go_size)⟩
     case measure => simp [intOf]; omega
   · obtain rfl : k = 12 := by omega
     go_wp2
     go_ret
     exact ⟨rfl, by rw [Nat.mod_eq_of_lt (by omega)] at h1; exact h1, hbr⟩
end Go.Proofs.YtapilekangmcoaaGreatDoor.Dq
