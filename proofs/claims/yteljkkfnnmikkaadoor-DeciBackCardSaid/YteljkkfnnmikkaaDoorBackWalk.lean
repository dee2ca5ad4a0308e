/- The walk of DeciBack. -/
import Derived.Test.YteljkkfnnmikkaaDoorAwake
import Derived.Test.YteljkkfnnmikkaaDoorBackMath
import Derived.Test.YteljkkfnnmikkaaDoorAddMath
namespace Go.Proofs.YteljkkfnnmikkaaDoor
open Go.RowKit
attribute [local go_sem high] run_dec_eql run_dec_neq

theorem i64_sound {n s : Int} (h : soundS n s = true) : I64 n ∧ I64 s := by
  obtain ⟨b1, b2, b3, b4, _⟩ := sound_bd h
  unfold I64
  omega

set_option maxHeartbeats 2000000 in
set_option maxRecDepth 100000 in
theorem back_form (m n s n2 s2 : Int) (hn : I64 n) (hs : I64 s) (hf : ¬ soundS n s = true) (w : World) (hm : w.cell? ⟨3, 0, none⟩ = some (.int .i64 m)) (hlt : 3 < w.heap.size) (htab : Lib.TabIs Tryd.prog w "internal/strconv.uint64pow10" .u64 Lib.pow10Tab) :
    Calls Tryd.prog 7 #[.agg #[.int .i64 n, .int .i64 s], .agg #[.int .i64 n2, .int .i64 s2]] w fun e w' => e = .returned (.bool true) ∧ Below w.heap.size w w' := by
  have HT := Lib.hid (Lib.tabBelow_of_tabIs htab)
  have HM : Hid (∀ w', Below w.heap.size w w' → w'.cell? ⟨3, 0, none⟩ = some (.int .i64 m)) := fun w' hb => ((bcell hb).1 _ _ hlt).trans hm
  have HX := Lib.hid (text_form n s hn hs hf)
  clear htab hm hn hs hf
  go_enter Tryd.func7, Tryd.ntmps7
  go_wp2_with fail
  refine (HX.out _).mono ?_
  rintro e w1 ⟨rfl, hb⟩
  go_wp2_with fail
  refine (awake_any m _ (HM.out _ (by (repeat' (first | (with_reducible exact Below.refl _ _) | (with_reducible assumption) | (with_reducible refine balloc ?_ _) | (with_reducible refine Below.drew ?_) | (with_reducible refine bset ?_ ?_ _) | (with_reducible refine bstep ?_ (by with_reducible assumption)) | (with_reducible refine bturn ?_ (by with_reducible assumption) ?_) | go_size)))) (HT.out _ (by (repeat' (first | (with_reducible exact Below.refl _ _) | (with_reducible assumption) | (with_reducible refine balloc ?_ _) | (with_reducible refine Below.drew ?_) | (with_reducible refine bset ?_ ?_ _) | (with_reducible refine bstep ?_ (by with_reducible assumption)) | (with_reducible refine bturn ?_ (by with_reducible assumption) ?_) | go_size))))).mono ?_
  rintro e w2 ⟨rfl, hb2⟩
  go_wp2_with fail
  refine (awake_any m _ (HM.out _ (by (repeat' (first | (with_reducible exact Below.refl _ _) | (with_reducible assumption) | (with_reducible refine balloc ?_ _) | (with_reducible refine Below.drew ?_) | (with_reducible refine bset ?_ ?_ _) | (with_reducible refine bstep ?_ (by with_reducible assumption)) | (with_reducible refine bturn ?_ (by with_reducible assumption) ?_) | go_size)))) (HT.out _ (by (repeat' (first | (with_reducible exact Below.refl _ _) | (with_reducible assumption) | (with_reducible refine balloc ?_ _) | (with_reducible refine Below.drew ?_) | (with_reducible refine bset ?_ ?_ _) | (with_reducible refine bstep ?_ (by with_reducible assumption)) | (with_reducible refine bturn ?_ (by with_reducible assumption) ?_) | go_size))))).mono ?_
  rintro e w3 ⟨rfl, hb3⟩
  go_wp2
  go_ret
  exact ⟨rfl, by (repeat' (first | (with_reducible exact Below.refl _ _) | (with_reducible assumption) | (with_reducible refine balloc ?_ _) | (with_reducible refine Below.drew ?_) | (with_reducible refine bset ?_ ?_ _) | (with_reducible refine bstep ?_ (by with_reducible assumption)) | (with_reducible refine bturn ?_ (by with_reducible assumption) ?_) | go_size))⟩

set_option maxHeartbeats 4000000 in
set_option maxRecDepth 100000 in
theorem back_good (m n s n2 s2 : Int) (hn : I64 n) (hs : I64 s) (hn2 : I64 n2) (hs2 : I64 s2) (hf : soundS n s = true) (w : World) (hm : w.cell? ⟨3, 0, none⟩ = some (.int .i64 m)) (hlt : 3 < w.heap.size) (htab : Lib.TabIs Tryd.prog w "internal/strconv.uint64pow10" .u64 Lib.pow10Tab) :
    Calls Tryd.prog 7 #[.agg #[.int .i64 n, .int .i64 s], .agg #[.int .i64 n2, .int .i64 s2]] w fun e w' => e = .returned (.bool true) ∧ Below w.heap.size w w' := by
  have HT := Lib.hid (Lib.tabBelow_of_tabIs htab)
  have HM : Hid (∀ w', Below w.heap.size w w' → w'.cell? ⟨3, 0, none⟩ = some (.int .i64 m)) := fun w' hb => ((bcell hb).1 _ _ hlt).trans hm
  obtain ⟨b1, b2, b3, b4, _⟩ := sound_bd hf
  have hmg := mag_nn n
  have HX := Lib.hid (fun w h => text_any n s (mag n).toNat s.toNat hn (by omega) hf (by omega) _ rfl w h)
  have HP := Lib.hid (fun w h => parse_back n s (mag n).toNat s.toNat hf (by omega) (by omega) _ rfl m w h)
  generalize hTe : (⟨(textS (decide (n < 0)) (mag n).toNat s.toNat).toArray⟩ : ByteArray) = T at *
  have HA := Lib.hid (add_any n s n2 s2 hn hs hn2 hs2)
  have hback := fun h => add_back (n := n) (s := s) (n2 := n2) (s2 := s2) h hf
  generalize hre : addS n s n2 s2 = r at *
  have hb0 := (Blk.new w 23 #[.int .i64 n, .int .i64 s]).alloc (.cells #[.int .i64 n2, .int .i64 s2] 23)
  have hb2 := Blk.new' (w.alloc (.cells #[.int .i64 n, .int .i64 s] 23)) 23 #[.int .i64 n2, .int .i64 s2] (n := w.heap.size + 1) (by simp)
  by_cases he : r.e = 0
  · obtain ⟨hs2', hA2⟩ := hback he
    have hsr : soundS r.n r.s = true := by
      apply Classical.byContradiction
      intro hns
      have h9 : addS r.n r.s (-n2) s2 = ⟨0, 0, 2⟩ := by
        unfold addS
        rw [if_neg]
        intro hc
        rw [Bool.and_eq_true] at hc
        exact hns hc.1
      have := congrArg Res.e (h9.symm.trans hA2)
      cases this
    have hi1 := i64_sound hsr
    have hi2 := i64_sound (sound_neg hs2')
    have hA3 := add_any r.n r.s (-n2) s2 hi1.1 hi1.2 hi2.1 hi2.2
    rw [hA2] at hA3
    have HA3 := Lib.hid hA3
    have hng := neg_any n2 s2 hn2 hs2
    rw [show negS n2 s2 = ⟨-n2, s2, 0⟩ from by unfold negS; rw [if_pos hs2']] at hng
    have HNg := Lib.hid hng
    simp only at HA3 HNg
    clear hng hA3 hA2 hback hre hTe hm htab hn hs hn2 hs2 hf hi1 hi2 hsr hs2' hmg b1 b2 b3 b4
    go_enter Tryd.func7, Tryd.ntmps7
    go_wp2_with fail
    refine (HX.out _ (HT.out _ (by (repeat' (first | (with_reducible exact Below.refl _ _) | (with_reducible assumption) | (with_reducible refine balloc ?_ _) | (with_reducible refine Below.drew ?_) | (with_reducible refine bset ?_ ?_ _) | (with_reducible refine bstep ?_ (by with_reducible assumption)) | (with_reducible refine bturn ?_ (by with_reducible assumption) ?_) | go_size))))).mono ?_
    rintro e w1 ⟨rfl, hw1⟩
    go_wp2_with fail
    refine (awake_any m _ (HM.out _ (by (repeat' (first | (with_reducible exact Below.refl _ _) | (with_reducible assumption) | (with_reducible refine balloc ?_ _) | (with_reducible refine Below.drew ?_) | (with_reducible refine bset ?_ ?_ _) | (with_reducible refine bstep ?_ (by with_reducible assumption)) | (with_reducible refine bturn ?_ (by with_reducible assumption) ?_) | go_size)))) (HT.out _ (by (repeat' (first | (with_reducible exact Below.refl _ _) | (with_reducible assumption) | (with_reducible refine balloc ?_ _) | (with_reducible refine Below.drew ?_) | (with_reducible refine bset ?_ ?_ _) | (with_reducible refine bstep ?_ (by with_reducible assumption)) | (with_reducible refine bturn ?_ (by with_reducible assumption) ?_) | go_size))))).mono ?_
    rintro e w2 ⟨rfl, hw2⟩
    go_wp2_with fail
    refine (HP.out _ (HM.out _ (by (repeat' (first | (with_reducible exact Below.refl _ _) | (with_reducible assumption) | (with_reducible refine balloc ?_ _) | (with_reducible refine Below.drew ?_) | (with_reducible refine bset ?_ ?_ _) | (with_reducible refine bstep ?_ (by with_reducible assumption)) | (with_reducible refine bturn ?_ (by with_reducible assumption) ?_) | go_size))))).mono ?_
    rintro e w3 ⟨rfl, hw3⟩
    replace hb0 := (((hb0.step hw1).step hw2).step hw3).alloc (.cells #[.int .i64 n, .int .i64 s] 23)
    replace hb2 := (((hb2.step hw1).step hw2).step hw3).alloc (.cells #[.int .i64 n, .int .i64 s] 23)
    have bx := Blk.new w3 23 #[.int .i64 n, .int .i64 s]
    have c0 := hb0.cell 0
    have c1 := hb0.cell 1
    have e0 := hb2.cell 0
    have e1 := hb2.cell 1
    simp at c0 c1 e0 e1
    go_wp2_with fail
    refine (HA.out _).mono ?_
    rintro e w4 ⟨rfl, hw4⟩
    replace hb0 := (hb0.step hw4).alloc (.cells #[.int .i64 r.n, .int .i64 r.s] 23)
    replace hb2 := (hb2.step hw4).alloc (.cells #[.int .i64 r.n, .int .i64 r.s] 23)
    replace bx := (bx.step hw4).alloc (.cells #[.int .i64 r.n, .int .i64 r.s] 23)
    have bs := Blk.new w4 23 #[.int .i64 r.n, .int .i64 r.s]
    clear c0 c1 e0 e1
    have c0 := hb0.cell 0
    have c1 := hb0.cell 1
    have e0 := hb2.cell 0
    have e1 := hb2.cell 1
    have x0 := bx.cell 0
    have x1 := bx.cell 1
    simp at c0 c1 e0 e1 x0 x1
    go_wp2_with fail
    refine (HNg.out _).mono ?_
    rintro e w5 ⟨rfl, hw5⟩
    replace hb0 := (hb0.step hw5).alloc (.cells #[.int .i64 (-n2), .int .i64 s2] 23)
    replace bs := (bs.step hw5).alloc (.cells #[.int .i64 (-n2), .int .i64 s2] 23)
    have bm := Blk.new w5 23 #[.int .i64 (-n2), .int .i64 s2]
    clear c0 c1 e0 e1 x0 x1
    have c0 := bs.cell 0
    have c1 := bs.cell 1
    have e0 := bm.cell 0
    have e1 := bm.cell 1
    simp at c0 c1 e0 e1
    go_wp2_with fail
    refine (HA3.out _).mono ?_
    rintro e w6 ⟨rfl, hw6⟩
    replace hb0 := (hb0.step hw6).alloc (.cells #[.int .i64 n, .int .i64 s] 23)
    have b_y := Blk.new w6 23 #[.int .i64 n, .int .i64 s]
    clear c0 c1 e0 e1
    have c0 := hb0.cell 0
    have c1 := hb0.cell 1
    have e0 := b_y.cell 0
    have e1 := b_y.cell 1
    simp at c0 c1 e0 e1
    go_wp2
    go_ret
    exact ⟨by simp, by (repeat' (first | (with_reducible exact Below.refl _ _) | (with_reducible assumption) | (with_reducible refine balloc ?_ _) | (with_reducible refine Below.drew ?_) | (with_reducible refine bset ?_ ?_ _) | (with_reducible refine bstep ?_ (by with_reducible assumption)) | (with_reducible refine bturn ?_ (by with_reducible assumption) ?_) | go_size))⟩
  · have he' : (r.e == 0) = false := by simpa using he
    clear hback hre hTe hm htab hn hs hn2 hs2 hf hmg b1 b2 b3 b4
    go_enter Tryd.func7, Tryd.ntmps7
    go_wp2_with fail
    refine (HX.out _ (HT.out _ (by (repeat' (first | (with_reducible exact Below.refl _ _) | (with_reducible assumption) | (with_reducible refine balloc ?_ _) | (with_reducible refine Below.drew ?_) | (with_reducible refine bset ?_ ?_ _) | (with_reducible refine bstep ?_ (by with_reducible assumption)) | (with_reducible refine bturn ?_ (by with_reducible assumption) ?_) | go_size))))).mono ?_
    rintro e w1 ⟨rfl, hw1⟩
    go_wp2_with fail
    refine (awake_any m _ (HM.out _ (by (repeat' (first | (with_reducible exact Below.refl _ _) | (with_reducible assumption) | (with_reducible refine balloc ?_ _) | (with_reducible refine Below.drew ?_) | (with_reducible refine bset ?_ ?_ _) | (with_reducible refine bstep ?_ (by with_reducible assumption)) | (with_reducible refine bturn ?_ (by with_reducible assumption) ?_) | go_size)))) (HT.out _ (by (repeat' (first | (with_reducible exact Below.refl _ _) | (with_reducible assumption) | (with_reducible refine balloc ?_ _) | (with_reducible refine Below.drew ?_) | (with_reducible refine bset ?_ ?_ _) | (with_reducible refine bstep ?_ (by with_reducible assumption)) | (with_reducible refine bturn ?_ (by with_reducible assumption) ?_) | go_size))))).mono ?_
    rintro e w2 ⟨rfl, hw2⟩
    go_wp2_with fail
    refine (HP.out _ (HM.out _ (by (repeat' (first | (with_reducible exact Below.refl _ _) | (with_reducible assumption) | (with_reducible refine balloc ?_ _) | (with_reducible refine Below.drew ?_) | (with_reducible refine bset ?_ ?_ _) | (with_reducible refine bstep ?_ (by with_reducible assumption)) | (with_reducible refine bturn ?_ (by with_reducible assumption) ?_) | go_size))))).mono ?_
    rintro e w3 ⟨rfl, hw3⟩
    replace hb0 := (((hb0.step hw1).step hw2).step hw3).alloc (.cells #[.int .i64 n, .int .i64 s] 23)
    replace hb2 := (((hb2.step hw1).step hw2).step hw3).alloc (.cells #[.int .i64 n, .int .i64 s] 23)
    have bx := Blk.new w3 23 #[.int .i64 n, .int .i64 s]
    have c0 := hb0.cell 0
    have c1 := hb0.cell 1
    have e0 := hb2.cell 0
    have e1 := hb2.cell 1
    simp at c0 c1 e0 e1
    go_wp2_with fail
    refine (HA.out _).mono ?_
    rintro e w4 ⟨rfl, hw4⟩
    replace hb0 := (hb0.step hw4).alloc (.cells #[.int .i64 r.n, .int .i64 r.s] 23)
    replace bx := (bx.step hw4).alloc (.cells #[.int .i64 r.n, .int .i64 r.s] 23)
    clear c0 c1 e0 e1
    have c0 := hb0.cell 0
    have c1 := hb0.cell 1
    have x0 := bx.cell 0
    have x1 := bx.cell 1
    simp at c0 c1 x0 x1
    go_wp2
    go_ret
    exact ⟨rfl, by (repeat' (first | (with_reducible exact Below.refl _ _) | (with_reducible assumption) | (with_reducible refine balloc ?_ _) | (with_reducible refine Below.drew ?_) | (with_reducible refine bset ?_ ?_ _) | (with_reducible refine bstep ?_ (by with_reducible assumption)) | (with_reducible refine bturn ?_ (by with_reducible assumption) ?_) | go_size))⟩

theorem backlaw_any (m n s n2 s2 : Int) (hn : I64 n) (hs : I64 s) (hn2 : I64 n2) (hs2 : I64 s2) (w : World) (hm : w.cell? ⟨3, 0, none⟩ = some (.int .i64 m)) (hlt : 3 < w.heap.size) (htab : Lib.TabIs Tryd.prog w "internal/strconv.uint64pow10" .u64 Lib.pow10Tab) :
    Calls Tryd.prog 7 #[.agg #[.int .i64 n, .int .i64 s], .agg #[.int .i64 n2, .int .i64 s2]] w fun e w' => e = .returned (.bool true) ∧ Below w.heap.size w w' := by
  by_cases hf : soundS n s = true
  · exact back_good m n s n2 s2 hn hs hn2 hs2 hf w hm hlt htab
  · exact back_form m n s n2 s2 hn hs hf w hm hlt htab
end Go.Proofs.YteljkkfnnmikkaaDoor
