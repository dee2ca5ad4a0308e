/- The walk of the law ExprOnce. -/
import Derived.Test.YtkkeplmaphcblaaGreatDoorK28
import Derived.Test.YtkkeplmaphcblaaGreatDoorK25
namespace Go.Proofs.YtkkeplmaphcblaaGreatDoor
open Go.RowKit Go.Shelf

set_option maxHeartbeats 8000000 in
set_option maxRecDepth 100000 in
theorem eo_big (s : ByteArray) (w : World) (h1 : decide ((3000 : Int) < (s.size : Int)) = true)
    (HW : Hid (∀ W, Below w.heap.size w W → Calls Tryz.prog 20 #[] W fun e w' => e = .returned (.bool true) ∧ Below W.heap.size W w')) :
    Calls Tryz.prog 9 #[.string s] w fun e w' => e = .returned (.bool true) ∧ Below w.heap.size w w' := by
  have h2 : (3000 : Int) < (s.size : Int) := of_decide_eq_true h1
  go_enter Tryz.func9, Tryz.ntmps9
  go_wp2_with fail
  refine (HW.out _ (by (repeat' (first | (with_reducible exact Below.refl _ _) | (with_reducible assumption) | (with_reducible refine balloc ?_ _) | (with_reducible refine Below.drew ?_) | (with_reducible refine bset ?_ ?_ _) | (with_reducible refine bstep ?_ (by with_reducible assumption)) | (with_reducible refine bturn ?_ (by with_reducible assumption) ?_) | go_size)))).mono ?_
  rintro _ w1 ⟨rfl, hb1⟩
  go_wp2_with fail
  go_returns
  exact ⟨rfl, by (repeat' (first | (with_reducible exact Below.refl _ _) | (with_reducible assumption) | (with_reducible refine balloc ?_ _) | (with_reducible refine Below.drew ?_) | (with_reducible refine bset ?_ ?_ _) | (with_reducible refine bstep ?_ (by with_reducible assumption)) | (with_reducible refine bturn ?_ (by with_reducible assumption) ?_) | go_size))⟩
set_option maxHeartbeats 8000000 in
set_option maxRecDepth 100000 in
theorem eo_bad (s : ByteArray) (a e : Int) (E : Ex) (he : (e != 0) = true) (ha0 : 0 ≤ a) (ha1 : a ≤ (s.size : Int)) (w : World) (h1 : decide ((3000 : Int) < (s.size : Int)) = false)
    (HW : Hid (∀ W, Below w.heap.size w W → Calls Tryz.prog 20 #[] W fun e w' => e = .returned (.bool true) ∧ Below W.heap.size W w'))
    (HP : Hid (∀ W, Below w.heap.size w W → Calls Tryz.prog 16 #[.string s] W fun x w' => (∃ cs, x = .returned (.tuple #[.agg cs, .int .i64 a, .int .i64 e]) ∧ XM (fun g => W.heap.size ≤ g) w' E cs) ∧ Below W.heap.size W w')) :
    Calls Tryz.prog 9 #[.string s] w fun e w' => e = .returned (.bool true) ∧ Below w.heap.size w w' := by
  have h2 : ¬ (3000 : Int) < (s.size : Int) := of_decide_eq_false h1
  go_enter Tryz.func9, Tryz.ntmps9
  go_wp2_with fail
  refine (HP.out _ (by (repeat' (first | (with_reducible exact Below.refl _ _) | (with_reducible assumption) | (with_reducible refine balloc ?_ _) | (with_reducible refine Below.drew ?_) | (with_reducible refine bset ?_ ?_ _) | (with_reducible refine bstep ?_ (by with_reducible assumption)) | (with_reducible refine bturn ?_ (by with_reducible assumption) ?_) | go_size)))).mono ?_
  rintro x w1 ⟨⟨cs, rfl, hx⟩, hb1⟩
  have X1 := Lib.hid (hx.mono (T := fun _ => True) fun _ _ _ => trivial)
  obtain ⟨o, k, n, si, q, mm, r, B, l, c, rfl⟩ := hx.cells
  have kA : Blk (w1.alloc (.cells #[.int .i64 0, .int .i64 0, .int .i64 0, .int .i64 0, .string ⟨#[]⟩, .int .i64 0, .string ⟨#[]⟩, .slice none 0 0] 33)) w1.heap.size 33 #[.int .i64 0, .int .i64 0, .int .i64 0, .int .i64 0, .string ⟨#[]⟩, .int .i64 0, .string ⟨#[]⟩, .slice none 0 0] := Blk.new _ _ _
  have hb01 : Below w.heap.size w w1 := by (repeat' (first | (with_reducible exact Below.refl _ _) | (with_reducible assumption) | (with_reducible refine balloc ?_ _) | (with_reducible refine Below.drew ?_) | (with_reducible refine bset ?_ ?_ _) | (with_reducible refine bstep ?_ (by with_reducible assumption)) | (with_reducible refine bturn ?_ (by with_reducible assumption) ?_) | go_size))
  clear hx HP
  go_upto_region 4 with (refine wpList_store_blk kA rfl _ _ _ (by rfl) _ (by rfl) (by rfl) (by (repeat (first | (with_reducible exact kA) | (with_reducible refine Blk.alloc ?_ _) | (with_reducible refine Blk.drew ?_) | (with_reducible refine Blk.far ?_ (by first | (simp; done) | (simp; omega)) _) | (with_reducible refine Blk.turn ?_ (by with_reducible assumption) (by omega))))) (by rfl) (by kernel_rfl) (by simp [Value.oneCell']) ?_; intro wt kAn ht)
  have hb2 : Below w1.heap.size w1 wt := bturn (balloc (Below.refl _ _) _) ht (Nat.le_refl _)
  have hb02 : Below w.heap.size w wt := bstep hb01 hb2
  have X2 := Lib.hid (X1.out.step hb2)
  have k2 := Lib.hid kAn
  clear kA ht hb1 hb2 X1 kAn hb01
  go_wp2_with fail
  refine (HW.out _ hb02).mono ?_
  rintro _ w3 ⟨rfl, hb3⟩
  have k3 := Lib.hid (k2.out.step hb3)
  have X3 := Lib.hid (X2.out.step hb3)
  have hb03 := bstep hb02 hb3
  clear hb02 hb3 k2 X2
  go_wp2_with fail
  refine (HW.out _ hb03).mono ?_
  rintro _ w4 ⟨rfl, hb4⟩
  have hb04 := bstep hb03 hb4
  go_wp2_with fail
  go_returns
  exact ⟨by first | rfl | simp, hb04⟩
set_option maxHeartbeats 8000000 in
set_option maxRecDepth 100000 in
theorem eo_good (s S : ByteArray) (E : Ex) (a a2 : Int) (w : World) (h1 : decide ((3000 : Int) < (s.size : Int)) = false)
    (HW : Hid (∀ W, Below w.heap.size w W → Calls Tryz.prog 20 #[] W fun e w' => e = .returned (.bool true) ∧ Below W.heap.size W w'))
    (HP : Hid (∀ W, Below w.heap.size w W → Calls Tryz.prog 16 #[.string s] W fun x w' => (∃ cs, x = .returned (.tuple #[.agg cs, .int .i64 a, .int .i64 0]) ∧ XM (fun g => W.heap.size ≤ g) w' E cs) ∧ Below W.heap.size W w'))
    (HS : Hid (∀ cs W, Below w.heap.size w W → XM (fun _ => True) W E cs → Calls Tryz.prog 32 #[.agg cs] W fun e w' => e = .returned (.bool true) ∧ Below W.heap.size W w'))
    (HT : Hid (∀ cs W, Below w.heap.size w W → XM (fun _ => True) W E cs → Calls Tryz.prog 30 #[.agg cs] W fun e w' => e = .returned (.tuple #[.string S, .int .i64 0]) ∧ Below W.heap.size W w'))
    (HQ : Hid (∀ W, Below w.heap.size w W → Calls Tryz.prog 16 #[.string S] W fun x w' => (∃ cs, x = .returned (.tuple #[.agg cs, .int .i64 a2, .int .i64 0]) ∧ XM (fun g => W.heap.size ≤ g) w' E cs) ∧ Below W.heap.size W w'))
    (HR : Hid (∀ cs ds W, XM (fun _ => True) W E cs → XM (fun _ => True) W E ds → Calls Tryz.prog 31 #[.agg cs, .agg ds] W fun e w' => e = .returned (.bool true) ∧ Below W.heap.size W w')) :
    Calls Tryz.prog 9 #[.string s] w fun e w' => e = .returned (.bool true) ∧ Below w.heap.size w w' := by
  have h2 : ¬ (3000 : Int) < (s.size : Int) := of_decide_eq_false h1
  go_enter Tryz.func9, Tryz.ntmps9
  go_wp2_with fail
  refine (HP.out _ (by (repeat' (first | (with_reducible exact Below.refl _ _) | (with_reducible assumption) | (with_reducible refine balloc ?_ _) | (with_reducible refine Below.drew ?_) | (with_reducible refine bset ?_ ?_ _) | (with_reducible refine bstep ?_ (by with_reducible assumption)) | (with_reducible refine bturn ?_ (by with_reducible assumption) ?_) | go_size)))).mono ?_
  rintro x w1 ⟨⟨cs, rfl, hx⟩, hb1⟩
  have X1 := Lib.hid (hx.mono (T := fun _ => True) fun _ _ _ => trivial)
  obtain ⟨o, k, n, si, q, mm, r, B, l, c, rfl⟩ := hx.cells
  have kA : Blk (w1.alloc (.cells #[.int .i64 0, .int .i64 0, .int .i64 0, .int .i64 0, .string ⟨#[]⟩, .int .i64 0, .string ⟨#[]⟩, .slice none 0 0] 33)) w1.heap.size 33 #[.int .i64 0, .int .i64 0, .int .i64 0, .int .i64 0, .string ⟨#[]⟩, .int .i64 0, .string ⟨#[]⟩, .slice none 0 0] := Blk.new _ _ _
  have hb01 : Below w.heap.size w w1 := by (repeat' (first | (with_reducible exact Below.refl _ _) | (with_reducible assumption) | (with_reducible refine balloc ?_ _) | (with_reducible refine Below.drew ?_) | (with_reducible refine bset ?_ ?_ _) | (with_reducible refine bstep ?_ (by with_reducible assumption)) | (with_reducible refine bturn ?_ (by with_reducible assumption) ?_) | go_size))
  clear hx HP
  go_upto_region 4 with (refine wpList_store_blk kA rfl _ _ _ (by rfl) _ (by rfl) (by rfl) (by (repeat (first | (with_reducible exact kA) | (with_reducible refine Blk.alloc ?_ _) | (with_reducible refine Blk.drew ?_) | (with_reducible refine Blk.far ?_ (by first | (simp; done) | (simp; omega)) _) | (with_reducible refine Blk.turn ?_ (by with_reducible assumption) (by omega))))) (by rfl) (by kernel_rfl) (by simp [Value.oneCell']) ?_; intro wt kAn ht)
  have hb2 : Below w1.heap.size w1 wt := bturn (balloc (Below.refl _ _) _) ht (Nat.le_refl _)
  have hb02 : Below w.heap.size w wt := bstep hb01 hb2
  have X2 := Lib.hid (X1.out.step hb2)
  have k2 := Lib.hid kAn
  clear kA ht hb1 hb2 X1 kAn hb01
  go_wp2_with fail
  refine (HW.out _ hb02).mono ?_
  rintro _ w3 ⟨rfl, hb3⟩
  have k3 := Lib.hid (k2.out.step hb3)
  have X3 := Lib.hid (X2.out.step hb3)
  have hb03 := bstep hb02 hb3
  clear hb02 hb3 k2 X2
  have k3n := k3.out
  have hlu := k3n.lt; have hllu := lts hlu; have qu0 := k3n.cell 0; have qu1 := k3n.cell 1; have qu2 := k3n.cell 2; have qu3 := k3n.cell 3; have qu4 := k3n.cell 4; have qu5 := k3n.cell 5; have qu6 := k3n.cell 6; have qu7 := k3n.cell 7; simp at qu0 qu1 qu2 qu3 qu4 qu5 qu6 qu7; have zu0 := k3n.frozen 0; have zu1 := k3n.frozen 1; have zu2 := k3n.frozen 2; have zu3 := k3n.frozen 3; have zu4 := k3n.frozen 4; have zu5 := k3n.frozen 5; have zu6 := k3n.frozen 6; have zu7 := k3n.frozen 7; have Hk3n := Lib.hid k3n; clear k3n
  go_wp2_with (refine wpList_load_blk k3n rfl _ _ (by rfl) (by rfl) (by (repeat (first | (with_reducible exact k3n) | (with_reducible refine Blk.alloc ?_ _) | (with_reducible refine Blk.drew ?_) | (with_reducible refine Blk.far ?_ (by first | (simp; done) | (simp; omega)) _) | (with_reducible refine Blk.turn ?_ (by with_reducible assumption) (by omega))))) _ Tryz.underlying33 rfl (by kernel_rfl) ?_)
  refine (HS.out _ _ hb03 X3.out).mono ?_
  rintro _ w4 ⟨rfl, hb4⟩
  have k4 := k3.out.step hb4
  have K4 := Lib.hid k4
  have X4 := Lib.hid (X3.out.step hb4)
  have hb04 := bstep hb03 hb4
  clear qu0 qu1 qu2 qu3 qu4 qu5 qu6 qu7 zu0 zu1 zu2 zu3 zu4 zu5 zu6 zu7 hlu hllu Hk3n k3 X3 hb4 hb03 HS
  have hlu := k4.lt; have hllu := lts hlu; have qu0 := k4.cell 0; have qu1 := k4.cell 1; have qu2 := k4.cell 2; have qu3 := k4.cell 3; have qu4 := k4.cell 4; have qu5 := k4.cell 5; have qu6 := k4.cell 6; have qu7 := k4.cell 7; simp at qu0 qu1 qu2 qu3 qu4 qu5 qu6 qu7; have zu0 := k4.frozen 0; have zu1 := k4.frozen 1; have zu2 := k4.frozen 2; have zu3 := k4.frozen 3; have zu4 := k4.frozen 4; have zu5 := k4.frozen 5; have zu6 := k4.frozen 6; have zu7 := k4.frozen 7; have Hk4 := Lib.hid k4; clear k4
  go_wp2_with (refine wpList_load_blk k4 rfl _ _ (by rfl) (by rfl) (by (repeat (first | (with_reducible exact k4) | (with_reducible refine Blk.alloc ?_ _) | (with_reducible refine Blk.drew ?_) | (with_reducible refine Blk.far ?_ (by first | (simp; done) | (simp; omega)) _) | (with_reducible refine Blk.turn ?_ (by with_reducible assumption) (by omega))))) _ Tryz.underlying33 rfl (by kernel_rfl) ?_)
  refine (HT.out _ _ hb04 X4.out).mono ?_
  rintro _ w5 ⟨rfl, hb5⟩
  have k5 := Lib.hid (K4.out.step hb5)
  have X5 := Lib.hid (X4.out.step hb5)
  have hb05 := bstep hb04 hb5
  clear qu0 qu1 qu2 qu3 qu4 qu5 qu6 qu7 zu0 zu1 zu2 zu3 zu4 zu5 zu6 zu7 hlu hllu Hk4 K4 X4 hb5 hb04 HT
  go_wp2_with fail
  refine (HQ.out _ hb05).mono ?_
  rintro x w6 ⟨⟨ds, rfl, hy⟩, hb6⟩
  have Y6 := Lib.hid (hy.mono (T := fun _ => True) fun _ _ _ => trivial)
  obtain ⟨o2, k2, n2, si2, q2, mm2, r2, B2, l2, c2, rfl⟩ := hy.cells
  have kB : Blk (w6.alloc (.cells #[.int .i64 0, .int .i64 0, .int .i64 0, .int .i64 0, .string ⟨#[]⟩, .int .i64 0, .string ⟨#[]⟩, .slice none 0 0] 33)) w6.heap.size 33 #[.int .i64 0, .int .i64 0, .int .i64 0, .int .i64 0, .string ⟨#[]⟩, .int .i64 0, .string ⟨#[]⟩, .slice none 0 0] := Blk.new _ _ _
  have hb06 := bstep hb05 hb6
  have k6 := Lib.hid (k5.out.step hb6)
  have X6 := Lib.hid (X5.out.step hb6)
  clear hy HQ hb6 hb05 k5 X5
  go_upto_region 10 with (refine wpList_store_blk kB rfl _ _ _ (by rfl) _ (by rfl) (by rfl) (by (repeat (first | (with_reducible exact kB) | (with_reducible refine Blk.alloc ?_ _) | (with_reducible refine Blk.drew ?_) | (with_reducible refine Blk.far ?_ (by first | (simp; done) | (simp; omega)) _) | (with_reducible refine Blk.turn ?_ (by with_reducible assumption) (by omega))))) (by rfl) (by kernel_rfl) (by simp [Value.oneCell']) ?_; intro wt kBn ht)
  have hb7 : Below w6.heap.size w6 wt := bturn (balloc (Below.refl _ _) _) ht (Nat.le_refl _)
  have hb07 : Below w.heap.size w wt := bstep hb06 hb7
  have X7 := Lib.hid (X6.out.step hb7)
  have Y7 := Lib.hid (Y6.out.step hb7)
  have k7 := k6.out.step hb7
  have k7n := kBn
  clear kB ht hb7 X6 Y6 k6 hb06 kBn
  have hlu := k7.lt; have hllu := lts hlu; have qu0 := k7.cell 0; have qu1 := k7.cell 1; have qu2 := k7.cell 2; have qu3 := k7.cell 3; have qu4 := k7.cell 4; have qu5 := k7.cell 5; have qu6 := k7.cell 6; have qu7 := k7.cell 7; simp at qu0 qu1 qu2 qu3 qu4 qu5 qu6 qu7; have zu0 := k7.frozen 0; have zu1 := k7.frozen 1; have zu2 := k7.frozen 2; have zu3 := k7.frozen 3; have zu4 := k7.frozen 4; have zu5 := k7.frozen 5; have zu6 := k7.frozen 6; have zu7 := k7.frozen 7; have Hk7 := Lib.hid k7; clear k7
  have hlv := k7n.lt; have hllv := lts hlv; have qv0 := k7n.cell 0; have qv1 := k7n.cell 1; have qv2 := k7n.cell 2; have qv3 := k7n.cell 3; have qv4 := k7n.cell 4; have qv5 := k7n.cell 5; have qv6 := k7n.cell 6; have qv7 := k7n.cell 7; simp at qv0 qv1 qv2 qv3 qv4 qv5 qv6 qv7; have zv0 := k7n.frozen 0; have zv1 := k7n.frozen 1; have zv2 := k7n.frozen 2; have zv3 := k7n.frozen 3; have zv4 := k7n.frozen 4; have zv5 := k7n.frozen 5; have zv6 := k7n.frozen 6; have zv7 := k7n.frozen 7; have Hk7n := Lib.hid k7n; clear k7n
  go_wp2_with (first | (refine wpList_load_blk k7 rfl _ _ (by rfl) (by rfl) (by (repeat (first | (with_reducible exact k7) | (with_reducible refine Blk.alloc ?_ _) | (with_reducible refine Blk.drew ?_) | (with_reducible refine Blk.far ?_ (by first | (simp; done) | (simp; omega)) _) | (with_reducible refine Blk.turn ?_ (by with_reducible assumption) (by omega))))) _ Tryz.underlying33 rfl (by kernel_rfl) ?_) | (refine wpList_load_blk k7n rfl _ _ (by rfl) (by rfl) (by (repeat (first | (with_reducible exact k7n) | (with_reducible refine Blk.alloc ?_ _) | (with_reducible refine Blk.drew ?_) | (with_reducible refine Blk.far ?_ (by first | (simp; done) | (simp; omega)) _) | (with_reducible refine Blk.turn ?_ (by with_reducible assumption) (by omega))))) _ Tryz.underlying33 rfl (by kernel_rfl) ?_))
  refine (HR.out _ _ _ X7.out Y7.out).mono ?_
  rintro _ w8 ⟨rfl, hb8⟩
  go_wp2_with fail
  go_returns
  exact ⟨by first | rfl | simp, bstep hb07 hb8⟩
theorem eonce_any (hTA : Hid ETextAny) (s : ByteArray) (m : Int) (w : World) (hw : OKW m w) :
    Calls Tryz.prog 9 #[.string s] w fun e w' => e = .returned (.bool true) ∧ Below w.heap.size w w' := by
  have HW := Lib.hid fun W (h : Below w.heap.size w W) => awake_ex hTA m W (hw.step h)
  have hsz : s.data.toList.length = s.size := by simp
  cases h1 : decide ((3000 : Int) < (s.size : Int)) with
  | true => exact eo_big s w h1 HW
  | false =>
    have h2 : ¬ (3000 : Int) < (s.size : Int) := of_decide_eq_false h1
    obtain ⟨p1, p2⟩ := expr_place m w hw s.data.toList 600000 soundX
    have HP := fun W (h : Below w.heap.size w W) => eparse_any m s W (hw.step h) 600000 (Nat.le_refl _)
    by_cases he : (exprS (lxX m) 600000 soundX s.data.toList).2.2 = 0
    · obtain ⟨g1, g2, g3, g4⟩ := outE_ok he
      have hE : ∃ E, (exprF wordB 600000 (newP (toksS (lxX m) s.data.toList) s.data.toList.length) 1).1 = E := ⟨_, rfl⟩
      obtain ⟨E, hE⟩ := hE
      have hl := read_len (lxX m) s.data.toList 600000 1
      obtain ⟨t1, t2, t3⟩ := toksS_ok m w hw s.data.toList
      have h0 : POK s.data.toList.length (newP (toksS (lxX m) s.data.toList) s.data.toList.length) := ⟨Nat.le_refl _, Int.natCast_nonneg _, Int.ofNat_le.2 t2, t1⟩
      have hv := (ev_all wordB _ 600000).1 _ 1 h0
      rw [hE] at g3 g4 hl hv
      have hr : exprS (lxX m) 600000 soundX s.data.toList = (E, 0, 0) := by
        unfold exprS
        rw [hE]
        exact g4
      obtain ⟨s1, s2, s3⟩ := (soundX_iff E).1 g3
      have hl2 : (etxt E).length ≤ 65536 := by omega
      have hb := fun W (h : Below w.heap.size w W) => expr_back m W (hw.step h) s1 s2 s3 hl2 soundX g3 600000 (by omega)
      have ht : textX E = (etxt E, 0) := by
        unfold textX
        rw [if_pos g3, if_neg (by omega)]
      refine eo_good s (bs (etxt E)) E 0 0 w h1 HW (Lib.hid fun W h => ?_) (Lib.hid fun cs W h hx => ?_) (Lib.hid fun cs W h hx => ?_) (Lib.hid fun W h => ?_) (Lib.hid fun cs ds W hx hy => ?_)
      · have k := HP W h
        rw [hr] at k
        exact k
      · have k := sound_any' E cs m W (hw.step h) hx hv
        rw [g3] at k
        exact k
      · have k := hTA.out E cs m W (hw.step h) hx hv
        rw [ht] at k
        exact k
      · have k := eparse_any m (bs (etxt E)) W (hw.step h) 600000 (Nat.le_refl _)
        rw [show (bs (etxt E)).data.toList = etxt E from rfl, hb W h] at k
        exact k
      · have k := rsame_all W E E cs ds W hx hy (Below.refl _ _)
        rw [(eqE_iff E E).2 rfl] at k
        exact k
    · refine eo_bad s _ _ (exprS (lxX m) 600000 soundX s.data.toList).1 (by simpa using he) p1 (by omega) w h1 HW (Lib.hid fun W h => HP W h)
end Go.Proofs.YtkkeplmaphcblaaGreatDoor
