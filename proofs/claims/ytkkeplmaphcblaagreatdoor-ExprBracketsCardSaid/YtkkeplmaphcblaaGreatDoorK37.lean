/- The walk of the law ExprBrackets, first part. The walk of the law ExprBrackets, last part. -/
import Derived.Test.YtkkeplmaphcblaaGreatDoorK28
import Derived.Test.YtkkeplmaphcblaaGreatDoorK25
namespace Go.Proofs.YtkkeplmaphcblaaGreatDoor
open Go.RowKit Go.Shelf

set_option maxHeartbeats 8000000 in
set_option maxRecDepth 100000 in
theorem bk_big1 (s t : ByteArray) (w : World) (h1 : decide ((1000 : Int) < (s.size : Int)) = true)
    (HW : Hid (∀ W, Below w.heap.size w W → Calls Tryz.prog 20 #[] W fun e w' => e = .returned (.bool true) ∧ Below W.heap.size W w')) :
    Calls Tryz.prog 10 #[.string s, .string t] w fun e w' => e = .returned (.bool true) ∧ Below w.heap.size w w' := by
  have g1 : (1000 : Int) < (s.size : Int) := of_decide_eq_true h1
  go_enter Tryz.func10, Tryz.ntmps10
  go_wp2_with fail
  refine (HW.out _ (by (repeat' (first | (with_reducible exact Below.refl _ _) | (with_reducible assumption) | (with_reducible refine balloc ?_ _) | (with_reducible refine Below.drew ?_) | (with_reducible refine bset ?_ ?_ _) | (with_reducible refine bstep ?_ (by with_reducible assumption)) | (with_reducible refine bturn ?_ (by with_reducible assumption) ?_) | go_size)))).mono ?_
  rintro _ w1 ⟨rfl, hb1⟩
  go_wp2_with fail
  go_returns
  exact ⟨rfl, by (repeat' (first | (with_reducible exact Below.refl _ _) | (with_reducible assumption) | (with_reducible refine balloc ?_ _) | (with_reducible refine Below.drew ?_) | (with_reducible refine bset ?_ ?_ _) | (with_reducible refine bstep ?_ (by with_reducible assumption)) | (with_reducible refine bturn ?_ (by with_reducible assumption) ?_) | go_size))⟩
set_option maxHeartbeats 8000000 in
set_option maxRecDepth 100000 in
theorem bk_big2 (s t : ByteArray) (w : World) (h1 : decide ((1000 : Int) < (s.size : Int)) = false) (h2 : decide ((1000 : Int) < (t.size : Int)) = true)
    (HW : Hid (∀ W, Below w.heap.size w W → Calls Tryz.prog 20 #[] W fun e w' => e = .returned (.bool true) ∧ Below W.heap.size W w')) :
    Calls Tryz.prog 10 #[.string s, .string t] w fun e w' => e = .returned (.bool true) ∧ Below w.heap.size w w' := by
  have g1 : ¬ (1000 : Int) < (s.size : Int) := of_decide_eq_false h1
  have g2 : (1000 : Int) < (t.size : Int) := of_decide_eq_true h2
  go_enter Tryz.func10, Tryz.ntmps10
  go_wp2_with fail
  refine (HW.out _ (by (repeat' (first | (with_reducible exact Below.refl _ _) | (with_reducible assumption) | (with_reducible refine balloc ?_ _) | (with_reducible refine Below.drew ?_) | (with_reducible refine bset ?_ ?_ _) | (with_reducible refine bstep ?_ (by with_reducible assumption)) | (with_reducible refine bturn ?_ (by with_reducible assumption) ?_) | go_size)))).mono ?_
  rintro _ w1 ⟨rfl, hb1⟩
  go_wp2_with fail
  go_returns
  exact ⟨rfl, by (repeat' (first | (with_reducible exact Below.refl _ _) | (with_reducible assumption) | (with_reducible refine balloc ?_ _) | (with_reducible refine Below.drew ?_) | (with_reducible refine bset ?_ ?_ _) | (with_reducible refine bstep ?_ (by with_reducible assumption)) | (with_reducible refine bturn ?_ (by with_reducible assumption) ?_) | go_size))⟩
set_option maxHeartbeats 8000000 in
set_option maxRecDepth 100000 in
theorem bk_bad1 (s t : ByteArray) (E F : Ex) (a b e f : Int) (h3 : (e != 0) = true) (w : World) (h1 : decide ((1000 : Int) < (s.size : Int)) = false) (h2 : decide ((1000 : Int) < (t.size : Int)) = false)
    (HW : Hid (∀ W, Below w.heap.size w W → Calls Tryz.prog 20 #[] W fun e w' => e = .returned (.bool true) ∧ Below W.heap.size W w'))
    (HP : Hid (∀ W, Below w.heap.size w W → Calls Tryz.prog 16 #[.string s] W fun x w' => (∃ cs, x = .returned (.tuple #[.agg cs, .int .i64 a, .int .i64 e]) ∧ XM (fun g => W.heap.size ≤ g) w' E cs) ∧ Below W.heap.size W w'))
    (HQ : Hid (∀ W, Below w.heap.size w W → Calls Tryz.prog 16 #[.string t] W fun x w' => (∃ cs, x = .returned (.tuple #[.agg cs, .int .i64 b, .int .i64 f]) ∧ XM (fun g => W.heap.size ≤ g) w' F cs) ∧ Below W.heap.size W w')) :
    Calls Tryz.prog 10 #[.string s, .string t] w fun e w' => e = .returned (.bool true) ∧ Below w.heap.size w w' := by
  have g1 : ¬ (1000 : Int) < (s.size : Int) := of_decide_eq_false h1
  have g2 : ¬ (1000 : Int) < (t.size : Int) := of_decide_eq_false h2
  go_enter Tryz.func10, Tryz.ntmps10
  go_wp2_with fail
  refine (HP.out _ (by (repeat' (first | (with_reducible exact Below.refl _ _) | (with_reducible assumption) | (with_reducible refine balloc ?_ _) | (with_reducible refine Below.drew ?_) | (with_reducible refine bset ?_ ?_ _) | (with_reducible refine bstep ?_ (by with_reducible assumption)) | (with_reducible refine bturn ?_ (by with_reducible assumption) ?_) | go_size)))).mono ?_
  rintro x w1 ⟨⟨cs, rfl, hx⟩, hb1⟩
  have X1 := Lib.hid (hx.mono (T := fun _ => True) fun _ _ _ => trivial)
  obtain ⟨ox, kx, nx, sx, qx, mx, rx, Bx, lx, cx, rfl⟩ := hx.cells
  have kA : Blk (w1.alloc (.cells #[.int .i64 0, .int .i64 0, .int .i64 0, .int .i64 0, .string ⟨#[]⟩, .int .i64 0, .string ⟨#[]⟩, .slice none 0 0] 33)) w1.heap.size 33 #[.int .i64 0, .int .i64 0, .int .i64 0, .int .i64 0, .string ⟨#[]⟩, .int .i64 0, .string ⟨#[]⟩, .slice none 0 0] := Blk.new _ _ _
  have hb01 : Below w.heap.size w w1 := by (repeat' (first | (with_reducible exact Below.refl _ _) | (with_reducible assumption) | (with_reducible refine balloc ?_ _) | (with_reducible refine Below.drew ?_) | (with_reducible refine bset ?_ ?_ _) | (with_reducible refine bstep ?_ (by with_reducible assumption)) | (with_reducible refine bturn ?_ (by with_reducible assumption) ?_) | go_size))
  clear hx HP
  go_upto_region 4 with (refine wpList_store_blk kA rfl _ _ _ (by rfl) _ (by rfl) (by rfl) (by (repeat (first | (with_reducible exact kA) | (with_reducible refine Blk.alloc ?_ _) | (with_reducible refine Blk.drew ?_) | (with_reducible refine Blk.far ?_ (by first | (simp; done) | (simp; omega)) _) | (with_reducible refine Blk.turn ?_ (by with_reducible assumption) (by omega))))) (by rfl) (by kernel_rfl) (by simp [Value.oneCell']) ?_; intro wt kAn ht)
  have hb2 : Below w1.heap.size w1 wt := bturn (balloc (Below.refl _ _) _) ht (Nat.le_refl _)
  have hb02 : Below w.heap.size w wt := bstep hb01 hb2
  have X2 := Lib.hid (X1.out.step hb2)
  have k2 := Lib.hid kAn
  clear kA ht hb1 hb2 X1 kAn hb01
  rename World => w2
  go_wp2_with fail
  refine (HQ.out _ hb02).mono ?_
  rintro x w3 ⟨⟨ds, rfl, hy⟩, hb3⟩
  have Y3 := Lib.hid (hy.mono (T := fun _ => True) fun _ _ _ => trivial)
  obtain ⟨oy, ky, ny, sy, qy, my, ry, By, ly, cy, rfl⟩ := hy.cells
  have kB : Blk (w3.alloc (.cells #[.int .i64 0, .int .i64 0, .int .i64 0, .int .i64 0, .string ⟨#[]⟩, .int .i64 0, .string ⟨#[]⟩, .slice none 0 0] 33)) w3.heap.size 33 #[.int .i64 0, .int .i64 0, .int .i64 0, .int .i64 0, .string ⟨#[]⟩, .int .i64 0, .string ⟨#[]⟩, .slice none 0 0] := Blk.new _ _ _
  have hb03 : Below w.heap.size w w3 := bstep hb02 hb3
  have k3 := Lib.hid (k2.out.step hb3)
  have X3 := Lib.hid (X2.out.step hb3)
  clear hy HQ k2 X2 hb3 hb02
  go_upto_region 5 with (refine wpList_store_blk kB rfl _ _ _ (by rfl) _ (by rfl) (by rfl) (by (repeat (first | (with_reducible exact kB) | (with_reducible refine Blk.alloc ?_ _) | (with_reducible refine Blk.drew ?_) | (with_reducible refine Blk.far ?_ (by first | (simp; done) | (simp; omega)) _) | (with_reducible refine Blk.turn ?_ (by with_reducible assumption) (by omega))))) (by rfl) (by kernel_rfl) (by simp [Value.oneCell']) ?_; intro wt kBn ht)
  have hb4 : Below w3.heap.size w3 wt := bturn (balloc (Below.refl _ _) _) ht (Nat.le_refl _)
  have hb04 : Below w.heap.size w wt := bstep hb03 hb4
  have X4 := Lib.hid (X3.out.step hb4)
  have Y4 := Lib.hid (Y3.out.step hb4)
  have k4 := Lib.hid (k3.out.step hb4)
  have l4 := Lib.hid kBn
  clear kB ht hb4 k3 X3 Y3 kBn hb03
  go_wp2_with fail
  refine (HW.out _ hb04).mono ?_
  rintro _ w5 ⟨rfl, hb5⟩
  have hb05 := bstep hb04 hb5
  go_wp2_with fail
  refine (HW.out _ hb05).mono ?_
  rintro _ w6 ⟨rfl, hb6⟩
  go_wp2_with fail
  go_returns
  exact ⟨by first | rfl | simp, bstep hb05 hb6⟩
set_option maxHeartbeats 8000000 in
set_option maxRecDepth 100000 in
theorem bk_bad2 (s t : ByteArray) (E F : Ex) (a b _e f : Int) (h3 : (f != 0) = true) (w : World) (h1 : decide ((1000 : Int) < (s.size : Int)) = false) (h2 : decide ((1000 : Int) < (t.size : Int)) = false)
    (HW : Hid (∀ W, Below w.heap.size w W → Calls Tryz.prog 20 #[] W fun e w' => e = .returned (.bool true) ∧ Below W.heap.size W w'))
    (HP : Hid (∀ W, Below w.heap.size w W → Calls Tryz.prog 16 #[.string s] W fun x w' => (∃ cs, x = .returned (.tuple #[.agg cs, .int .i64 a, .int .i64 0]) ∧ XM (fun g => W.heap.size ≤ g) w' E cs) ∧ Below W.heap.size W w'))
    (HQ : Hid (∀ W, Below w.heap.size w W → Calls Tryz.prog 16 #[.string t] W fun x w' => (∃ cs, x = .returned (.tuple #[.agg cs, .int .i64 b, .int .i64 f]) ∧ XM (fun g => W.heap.size ≤ g) w' F cs) ∧ Below W.heap.size W w')) :
    Calls Tryz.prog 10 #[.string s, .string t] w fun e w' => e = .returned (.bool true) ∧ Below w.heap.size w w' := by
  have g1 : ¬ (1000 : Int) < (s.size : Int) := of_decide_eq_false h1
  have g2 : ¬ (1000 : Int) < (t.size : Int) := of_decide_eq_false h2
  go_enter Tryz.func10, Tryz.ntmps10
  go_wp2_with fail
  refine (HP.out _ (by (repeat' (first | (with_reducible exact Below.refl _ _) | (with_reducible assumption) | (with_reducible refine balloc ?_ _) | (with_reducible refine Below.drew ?_) | (with_reducible refine bset ?_ ?_ _) | (with_reducible refine bstep ?_ (by with_reducible assumption)) | (with_reducible refine bturn ?_ (by with_reducible assumption) ?_) | go_size)))).mono ?_
  rintro x w1 ⟨⟨cs, rfl, hx⟩, hb1⟩
  have X1 := Lib.hid (hx.mono (T := fun _ => True) fun _ _ _ => trivial)
  obtain ⟨ox, kx, nx, sx, qx, mx, rx, Bx, lx, cx, rfl⟩ := hx.cells
  have kA : Blk (w1.alloc (.cells #[.int .i64 0, .int .i64 0, .int .i64 0, .int .i64 0, .string ⟨#[]⟩, .int .i64 0, .string ⟨#[]⟩, .slice none 0 0] 33)) w1.heap.size 33 #[.int .i64 0, .int .i64 0, .int .i64 0, .int .i64 0, .string ⟨#[]⟩, .int .i64 0, .string ⟨#[]⟩, .slice none 0 0] := Blk.new _ _ _
  have hb01 : Below w.heap.size w w1 := by (repeat' (first | (with_reducible exact Below.refl _ _) | (with_reducible assumption) | (with_reducible refine balloc ?_ _) | (with_reducible refine Below.drew ?_) | (with_reducible refine bset ?_ ?_ _) | (with_reducible refine bstep ?_ (by with_reducible assumption)) | (with_reducible refine bturn ?_ (by with_reducible assumption) ?_) | go_size))
  clear hx HP
  go_upto_region 4 with (refine wpList_store_blk kA rfl _ _ _ (by rfl) _ (by rfl) (by rfl) (by (repeat (first | (with_reducible exact kA) | (with_reducible refine Blk.alloc ?_ _) | (with_reducible refine Blk.drew ?_) | (with_reducible refine Blk.far ?_ (by first | (simp; done) | (simp; omega)) _) | (with_reducible refine Blk.turn ?_ (by with_reducible assumption) (by omega))))) (by rfl) (by kernel_rfl) (by simp [Value.oneCell']) ?_; intro wt kAn ht)
  have hb2 : Below w1.heap.size w1 wt := bturn (balloc (Below.refl _ _) _) ht (Nat.le_refl _)
  have hb02 : Below w.heap.size w wt := bstep hb01 hb2
  have X2 := Lib.hid (X1.out.step hb2)
  have k2 := Lib.hid kAn
  clear kA ht hb1 hb2 X1 kAn hb01
  rename World => w2
  go_wp2_with fail
  refine (HQ.out _ hb02).mono ?_
  rintro x w3 ⟨⟨ds, rfl, hy⟩, hb3⟩
  have Y3 := Lib.hid (hy.mono (T := fun _ => True) fun _ _ _ => trivial)
  obtain ⟨oy, ky, ny, sy, qy, my, ry, By, ly, cy, rfl⟩ := hy.cells
  have kB : Blk (w3.alloc (.cells #[.int .i64 0, .int .i64 0, .int .i64 0, .int .i64 0, .string ⟨#[]⟩, .int .i64 0, .string ⟨#[]⟩, .slice none 0 0] 33)) w3.heap.size 33 #[.int .i64 0, .int .i64 0, .int .i64 0, .int .i64 0, .string ⟨#[]⟩, .int .i64 0, .string ⟨#[]⟩, .slice none 0 0] := Blk.new _ _ _
  have hb03 : Below w.heap.size w w3 := bstep hb02 hb3
  have k3 := Lib.hid (k2.out.step hb3)
  have X3 := Lib.hid (X2.out.step hb3)
  clear hy HQ k2 X2 hb3 hb02
  go_upto_region 5 with (refine wpList_store_blk kB rfl _ _ _ (by rfl) _ (by rfl) (by rfl) (by (repeat (first | (with_reducible exact kB) | (with_reducible refine Blk.alloc ?_ _) | (with_reducible refine Blk.drew ?_) | (with_reducible refine Blk.far ?_ (by first | (simp; done) | (simp; omega)) _) | (with_reducible refine Blk.turn ?_ (by with_reducible assumption) (by omega))))) (by rfl) (by kernel_rfl) (by simp [Value.oneCell']) ?_; intro wt kBn ht)
  have hb4 : Below w3.heap.size w3 wt := bturn (balloc (Below.refl _ _) _) ht (Nat.le_refl _)
  have hb04 : Below w.heap.size w wt := bstep hb03 hb4
  have X4 := Lib.hid (X3.out.step hb4)
  have Y4 := Lib.hid (Y3.out.step hb4)
  have k4 := Lib.hid (k3.out.step hb4)
  have l4 := Lib.hid kBn
  clear kB ht hb4 k3 X3 Y3 kBn hb03
  go_wp2_with fail
  refine (HW.out _ hb04).mono ?_
  rintro _ w5 ⟨rfl, hb5⟩
  have hb05 := bstep hb04 hb5
  go_wp2_with fail
  refine (HW.out _ hb05).mono ?_
  rintro _ w6 ⟨rfl, hb6⟩
  go_wp2_with fail
  go_returns
  exact ⟨by first | rfl | simp, bstep hb05 hb6⟩
end Go.Proofs.YtkkeplmaphcblaaGreatDoor

namespace Go.Proofs.YtkkeplmaphcblaaGreatDoor
open Go.RowKit Go.Shelf

set_option maxHeartbeats 8000000 in
set_option maxRecDepth 100000 in
theorem bk_deep1 (s t S1 S2 : ByteArray) (hS1 : (⟨#[40]⟩ ++ s) ++ ⟨#[41]⟩ = S1) (hS2 : (((⟨#[40]⟩ ++ s) ++ ⟨#[41, 32, 111, 114, 32, 40]⟩) ++ t) ++ ⟨#[41]⟩ = S2) (E F G K : Ex) (a b c d : Int) (h : Int) (w : World) (h1 : decide ((1000 : Int) < (s.size : Int)) = false) (h2 : decide ((1000 : Int) < (t.size : Int)) = false)
    (HW : Hid (∀ W, Below w.heap.size w W → Calls Tryz.prog 20 #[] W fun e w' => e = .returned (.bool true) ∧ Below W.heap.size W w'))
    (HP : Hid (∀ W, Below w.heap.size w W → Calls Tryz.prog 16 #[.string s] W fun x w' => (∃ cs, x = .returned (.tuple #[.agg cs, .int .i64 a, .int .i64 0]) ∧ XM (fun g => W.heap.size ≤ g) w' E cs) ∧ Below W.heap.size W w'))
    (HQ : Hid (∀ W, Below w.heap.size w W → Calls Tryz.prog 16 #[.string t] W fun x w' => (∃ cs, x = .returned (.tuple #[.agg cs, .int .i64 b, .int .i64 0]) ∧ XM (fun g => W.heap.size ≤ g) w' F cs) ∧ Below W.heap.size W w'))
    (HZ : Hid (∀ W, Below w.heap.size w W → Calls Tryz.prog 16 #[.string S1] W fun x w' => (∃ cs, x = .returned (.tuple #[.agg cs, .int .i64 c, .int .i64 9]) ∧ XM (fun g => W.heap.size ≤ g) w' G cs) ∧ Below W.heap.size W w'))
    (HV : Hid (∀ W, Below w.heap.size w W → Calls Tryz.prog 16 #[.string S2] W fun x w' => (∃ cs, x = .returned (.tuple #[.agg cs, .int .i64 d, .int .i64 h]) ∧ XM (fun g => W.heap.size ≤ g) w' K cs) ∧ Below W.heap.size W w')) :
    Calls Tryz.prog 10 #[.string s, .string t] w fun e w' => e = .returned (.bool true) ∧ Below w.heap.size w w' := by
  have g1 : ¬ (1000 : Int) < (s.size : Int) := of_decide_eq_false h1
  have g2 : ¬ (1000 : Int) < (t.size : Int) := of_decide_eq_false h2
  have f1 : 1 + s.size ≤ 9223372036854775807 := by omega
  have f2 : ((⟨#[40]⟩ : ByteArray) ++ s).size + 1 ≤ 9223372036854775807 := by rw [ByteArray.size_append]; show 1 + s.size + 1 ≤ _; omega
  have f3 : ((⟨#[40]⟩ : ByteArray) ++ s).size + 6 ≤ 9223372036854775807 := by rw [ByteArray.size_append]; show 1 + s.size + 6 ≤ _; omega
  have f4 : (((⟨#[40]⟩ : ByteArray) ++ s) ++ ⟨#[41, 32, 111, 114, 32, 40]⟩).size + t.size ≤ 9223372036854775807 := by rw [ByteArray.size_append, ByteArray.size_append]; show 1 + s.size + 6 + t.size ≤ _; omega
  have f5 : ((((⟨#[40]⟩ : ByteArray) ++ s) ++ ⟨#[41, 32, 111, 114, 32, 40]⟩) ++ t).size + 1 ≤ 9223372036854775807 := by rw [ByteArray.size_append, ByteArray.size_append, ByteArray.size_append]; show 1 + s.size + 6 + t.size + 1 ≤ _; omega
  go_enter Tryz.func10, Tryz.ntmps10
  go_wp2_with fail
  refine (HP.out _ (by (repeat' (first | (with_reducible exact Below.refl _ _) | (with_reducible assumption) | (with_reducible refine balloc ?_ _) | (with_reducible refine Below.drew ?_) | (with_reducible refine bset ?_ ?_ _) | (with_reducible refine bstep ?_ (by with_reducible assumption)) | (with_reducible refine bturn ?_ (by with_reducible assumption) ?_) | go_size)))).mono ?_
  rintro x w1 ⟨⟨cs, rfl, hx⟩, hb1⟩
  have X1 := Lib.hid (hx.mono (T := fun _ => True) fun _ _ _ => trivial)
  obtain ⟨ox, kx, nx, sx, qx, mx, rx, Bx, lx, cx, rfl⟩ := hx.cells
  have kA : Blk (w1.alloc (.cells #[.int .i64 0, .int .i64 0, .int .i64 0, .int .i64 0, .string ⟨#[]⟩, .int .i64 0, .string ⟨#[]⟩, .slice none 0 0] 33)) w1.heap.size 33 #[.int .i64 0, .int .i64 0, .int .i64 0, .int .i64 0, .string ⟨#[]⟩, .int .i64 0, .string ⟨#[]⟩, .slice none 0 0] := Blk.new _ _ _
  have hb01 : Below w.heap.size w w1 := by (repeat' (first | (with_reducible exact Below.refl _ _) | (with_reducible assumption) | (with_reducible refine balloc ?_ _) | (with_reducible refine Below.drew ?_) | (with_reducible refine bset ?_ ?_ _) | (with_reducible refine bstep ?_ (by with_reducible assumption)) | (with_reducible refine bturn ?_ (by with_reducible assumption) ?_) | go_size))
  clear hx HP
  go_upto_region 4 with (refine wpList_store_blk kA rfl _ _ _ (by rfl) _ (by rfl) (by rfl) (by (repeat (first | (with_reducible exact kA) | (with_reducible refine Blk.alloc ?_ _) | (with_reducible refine Blk.drew ?_) | (with_reducible refine Blk.far ?_ (by first | (simp; done) | (simp; omega)) _) | (with_reducible refine Blk.turn ?_ (by with_reducible assumption) (by omega))))) (by rfl) (by kernel_rfl) (by simp [Value.oneCell']) ?_; intro wt kAn ht)
  have hb2 : Below w1.heap.size w1 wt := bturn (balloc (Below.refl _ _) _) ht (Nat.le_refl _)
  have hb02 : Below w.heap.size w wt := bstep hb01 hb2
  have X2 := Lib.hid (X1.out.step hb2)
  have k2 := Lib.hid kAn
  clear kA ht hb1 hb2 X1 kAn hb01
  rename World => w2
  go_wp2_with fail
  refine (HQ.out _ hb02).mono ?_
  rintro x w3 ⟨⟨ds, rfl, hy⟩, hb3⟩
  have Y3 := Lib.hid (hy.mono (T := fun _ => True) fun _ _ _ => trivial)
  obtain ⟨oy, ky, ny, sy, qy, my, ry, By, ly, cy, rfl⟩ := hy.cells
  have kB : Blk (w3.alloc (.cells #[.int .i64 0, .int .i64 0, .int .i64 0, .int .i64 0, .string ⟨#[]⟩, .int .i64 0, .string ⟨#[]⟩, .slice none 0 0] 33)) w3.heap.size 33 #[.int .i64 0, .int .i64 0, .int .i64 0, .int .i64 0, .string ⟨#[]⟩, .int .i64 0, .string ⟨#[]⟩, .slice none 0 0] := Blk.new _ _ _
  have hb03 : Below w.heap.size w w3 := bstep hb02 hb3
  have k3 := Lib.hid (k2.out.step hb3)
  have X3 := Lib.hid (X2.out.step hb3)
  clear hy HQ k2 X2 hb3 hb02
  go_upto_region 5 with (refine wpList_store_blk kB rfl _ _ _ (by rfl) _ (by rfl) (by rfl) (by (repeat (first | (with_reducible exact kB) | (with_reducible refine Blk.alloc ?_ _) | (with_reducible refine Blk.drew ?_) | (with_reducible refine Blk.far ?_ (by first | (simp; done) | (simp; omega)) _) | (with_reducible refine Blk.turn ?_ (by with_reducible assumption) (by omega))))) (by rfl) (by kernel_rfl) (by simp [Value.oneCell']) ?_; intro wt kBn ht)
  have hb4 : Below w3.heap.size w3 wt := bturn (balloc (Below.refl _ _) _) ht (Nat.le_refl _)
  have hb04 : Below w.heap.size w wt := bstep hb03 hb4
  have X4 := Lib.hid (X3.out.step hb4)
  have Y4 := Lib.hid (Y3.out.step hb4)
  have k4 := Lib.hid (k3.out.step hb4)
  have l4 := Lib.hid kBn
  clear kB ht hb4 k3 X3 Y3 kBn hb03
  go_wp2_with fail
  refine (HW.out _ hb04).mono ?_
  rintro _ w5 ⟨rfl, hb5⟩
  have hb05 := bstep hb04 hb5
  have X5 := Lib.hid (X4.out.step hb5)
  have Y5 := Lib.hid (Y4.out.step hb5)
  have k5 := Lib.hid (k4.out.step hb5)
  have l5 := Lib.hid (l4.out.step hb5)
  clear X4 Y4 k4 l4 hb5 hb04 HW
  go_wp2_with fail
  try rw [hS1]
  refine (HZ.out _ hb05).mono ?_
  rintro x w6 ⟨⟨es, rfl, hz⟩, hb6⟩
  have Z6 := Lib.hid (hz.mono (T := fun _ => True) fun _ _ _ => trivial)
  obtain ⟨oz, kz, nz, sz, qz, mz, rz, Bz, lz, cz, rfl⟩ := hz.cells
  have kC : Blk (w6.alloc (.cells #[.int .i64 0, .int .i64 0, .int .i64 0, .int .i64 0, .string ⟨#[]⟩, .int .i64 0, .string ⟨#[]⟩, .slice none 0 0] 33)) w6.heap.size 33 #[.int .i64 0, .int .i64 0, .int .i64 0, .int .i64 0, .string ⟨#[]⟩, .int .i64 0, .string ⟨#[]⟩, .slice none 0 0] := Blk.new _ _ _
  have hb06 : Below w.heap.size w w6 := bstep hb05 hb6
  have X6 := Lib.hid (X5.out.step hb6)
  have Y6 := Lib.hid (Y5.out.step hb6)
  have k6 := Lib.hid (k5.out.step hb6)
  have l6 := Lib.hid (l5.out.step hb6)
  clear hz HZ X5 Y5 k5 l5 hb6 hb05
  go_upto_region 8 with (refine wpList_store_blk kC rfl _ _ _ (by rfl) _ (by rfl) (by rfl) (by (repeat (first | (with_reducible exact kC) | (with_reducible refine Blk.alloc ?_ _) | (with_reducible refine Blk.drew ?_) | (with_reducible refine Blk.far ?_ (by first | (simp; done) | (simp; omega)) _) | (with_reducible refine Blk.turn ?_ (by with_reducible assumption) (by omega))))) (by rfl) (by kernel_rfl) (by simp [Value.oneCell']) ?_; intro wt kCn ht)
  have hb7 : Below w6.heap.size w6 wt := bturn (balloc (Below.refl _ _) _) ht (Nat.le_refl _)
  have hb07 : Below w.heap.size w wt := bstep hb06 hb7
  have X7 := Lib.hid (X6.out.step hb7)
  have Y7 := Lib.hid (Y6.out.step hb7)
  have Z7 := Lib.hid (Z6.out.step hb7)
  have k7 := Lib.hid (k6.out.step hb7)
  have l7 := Lib.hid (l6.out.step hb7)
  have m7 := Lib.hid kCn
  clear kC ht hb7 X6 Y6 Z6 k6 l6 kCn hb06
  rename World => w7
  go_wp2_with fail
  try rw [hS2]
  refine (HV.out _ hb07).mono ?_
  rintro x w8 ⟨⟨vs, rfl, hv⟩, hb8⟩
  have V8 := Lib.hid (hv.mono (T := fun _ => True) fun _ _ _ => trivial)
  obtain ⟨ov, kv, nv, sv, qv, mv, rv, Bv, lv, cv, rfl⟩ := hv.cells
  have kD : Blk (w8.alloc (.cells #[.int .i64 0, .int .i64 0, .int .i64 0, .int .i64 0, .string ⟨#[]⟩, .int .i64 0, .string ⟨#[]⟩, .slice none 0 0] 33)) w8.heap.size 33 #[.int .i64 0, .int .i64 0, .int .i64 0, .int .i64 0, .string ⟨#[]⟩, .int .i64 0, .string ⟨#[]⟩, .slice none 0 0] := Blk.new _ _ _
  have hb08 : Below w.heap.size w w8 := bstep hb07 hb8
  have X8 := Lib.hid (X7.out.step hb8)
  have Y8 := Lib.hid (Y7.out.step hb8)
  have Z8 := Lib.hid (Z7.out.step hb8)
  have k8 := Lib.hid (k7.out.step hb8)
  have l8 := Lib.hid (l7.out.step hb8)
  have m8 := Lib.hid (m7.out.step hb8)
  clear hv HV X7 Y7 Z7 k7 l7 m7 hb8 hb07
  go_upto_region 9 with (refine wpList_store_blk kD rfl _ _ _ (by rfl) _ (by rfl) (by rfl) (by (repeat (first | (with_reducible exact kD) | (with_reducible refine Blk.alloc ?_ _) | (with_reducible refine Blk.drew ?_) | (with_reducible refine Blk.far ?_ (by first | (simp; done) | (simp; omega)) _) | (with_reducible refine Blk.turn ?_ (by with_reducible assumption) (by omega))))) (by rfl) (by kernel_rfl) (by simp [Value.oneCell']) ?_; intro wt kDn ht)
  have hb9 : Below w8.heap.size w8 wt := bturn (balloc (Below.refl _ _) _) ht (Nat.le_refl _)
  have hb09 : Below w.heap.size w wt := bstep hb08 hb9
  have X9 := Lib.hid (X8.out.step hb9)
  have Y9 := Lib.hid (Y8.out.step hb9)
  have Z9 := Lib.hid (Z8.out.step hb9)
  have V9 := Lib.hid (V8.out.step hb9)
  have k9 := Lib.hid (k8.out.step hb9)
  have l9 := Lib.hid (l8.out.step hb9)
  have m9 := Lib.hid (m8.out.step hb9)
  have n9 := Lib.hid kDn
  clear kD ht hb9 X8 Y8 Z8 V8 k8 l8 m8 kDn hb08
  rename World => w9
  clear X9 Y9 Z9 V9 k9 l9 m9 n9
  go_wp2_with fail
  go_returns
  exact ⟨rfl, hb09⟩
set_option maxHeartbeats 8000000 in
set_option maxRecDepth 100000 in
theorem bk_deep2 (s t S1 S2 : ByteArray) (hS1 : (⟨#[40]⟩ ++ s) ++ ⟨#[41]⟩ = S1) (hS2 : (((⟨#[40]⟩ ++ s) ++ ⟨#[41, 32, 111, 114, 32, 40]⟩) ++ t) ++ ⟨#[41]⟩ = S2) (E F G K : Ex) (a b c d : Int) (w : World) (h1 : decide ((1000 : Int) < (s.size : Int)) = false) (h2 : decide ((1000 : Int) < (t.size : Int)) = false)
    (HW : Hid (∀ W, Below w.heap.size w W → Calls Tryz.prog 20 #[] W fun e w' => e = .returned (.bool true) ∧ Below W.heap.size W w'))
    (HP : Hid (∀ W, Below w.heap.size w W → Calls Tryz.prog 16 #[.string s] W fun x w' => (∃ cs, x = .returned (.tuple #[.agg cs, .int .i64 a, .int .i64 0]) ∧ XM (fun g => W.heap.size ≤ g) w' E cs) ∧ Below W.heap.size W w'))
    (HQ : Hid (∀ W, Below w.heap.size w W → Calls Tryz.prog 16 #[.string t] W fun x w' => (∃ cs, x = .returned (.tuple #[.agg cs, .int .i64 b, .int .i64 0]) ∧ XM (fun g => W.heap.size ≤ g) w' F cs) ∧ Below W.heap.size W w'))
    (HZ : Hid (∀ W, Below w.heap.size w W → Calls Tryz.prog 16 #[.string S1] W fun x w' => (∃ cs, x = .returned (.tuple #[.agg cs, .int .i64 c, .int .i64 0]) ∧ XM (fun g => W.heap.size ≤ g) w' G cs) ∧ Below W.heap.size W w'))
    (HV : Hid (∀ W, Below w.heap.size w W → Calls Tryz.prog 16 #[.string S2] W fun x w' => (∃ cs, x = .returned (.tuple #[.agg cs, .int .i64 d, .int .i64 9]) ∧ XM (fun g => W.heap.size ≤ g) w' K cs) ∧ Below W.heap.size W w')) :
    Calls Tryz.prog 10 #[.string s, .string t] w fun e w' => e = .returned (.bool true) ∧ Below w.heap.size w w' := by
  have g1 : ¬ (1000 : Int) < (s.size : Int) := of_decide_eq_false h1
  have g2 : ¬ (1000 : Int) < (t.size : Int) := of_decide_eq_false h2
  have f1 : 1 + s.size ≤ 9223372036854775807 := by omega
  have f2 : ((⟨#[40]⟩ : ByteArray) ++ s).size + 1 ≤ 9223372036854775807 := by rw [ByteArray.size_append]; show 1 + s.size + 1 ≤ _; omega
  have f3 : ((⟨#[40]⟩ : ByteArray) ++ s).size + 6 ≤ 9223372036854775807 := by rw [ByteArray.size_append]; show 1 + s.size + 6 ≤ _; omega
  have f4 : (((⟨#[40]⟩ : ByteArray) ++ s) ++ ⟨#[41, 32, 111, 114, 32, 40]⟩).size + t.size ≤ 9223372036854775807 := by rw [ByteArray.size_append, ByteArray.size_append]; show 1 + s.size + 6 + t.size ≤ _; omega
  have f5 : ((((⟨#[40]⟩ : ByteArray) ++ s) ++ ⟨#[41, 32, 111, 114, 32, 40]⟩) ++ t).size + 1 ≤ 9223372036854775807 := by rw [ByteArray.size_append, ByteArray.size_append, ByteArray.size_append]; show 1 + s.size + 6 + t.size + 1 ≤ _; omega
  go_enter Tryz.func10, Tryz.ntmps10
  go_wp2_with fail
  refine (HP.out _ (by (repeat' (first | (with_reducible exact Below.refl _ _) | (with_reducible assumption) | (with_reducible refine balloc ?_ _) | (with_reducible refine Below.drew ?_) | (with_reducible refine bset ?_ ?_ _) | (with_reducible refine bstep ?_ (by with_reducible assumption)) | (with_reducible refine bturn ?_ (by with_reducible assumption) ?_) | go_size)))).mono ?_
  rintro x w1 ⟨⟨cs, rfl, hx⟩, hb1⟩
  have X1 := Lib.hid (hx.mono (T := fun _ => True) fun _ _ _ => trivial)
  obtain ⟨ox, kx, nx, sx, qx, mx, rx, Bx, lx, cx, rfl⟩ := hx.cells
  have kA : Blk (w1.alloc (.cells #[.int .i64 0, .int .i64 0, .int .i64 0, .int .i64 0, .string ⟨#[]⟩, .int .i64 0, .string ⟨#[]⟩, .slice none 0 0] 33)) w1.heap.size 33 #[.int .i64 0, .int .i64 0, .int .i64 0, .int .i64 0, .string ⟨#[]⟩, .int .i64 0, .string ⟨#[]⟩, .slice none 0 0] := Blk.new _ _ _
  have hb01 : Below w.heap.size w w1 := by (repeat' (first | (with_reducible exact Below.refl _ _) | (with_reducible assumption) | (with_reducible refine balloc ?_ _) | (with_reducible refine Below.drew ?_) | (with_reducible refine bset ?_ ?_ _) | (with_reducible refine bstep ?_ (by with_reducible assumption)) | (with_reducible refine bturn ?_ (by with_reducible assumption) ?_) | go_size))
  clear hx HP
  go_upto_region 4 with (refine wpList_store_blk kA rfl _ _ _ (by rfl) _ (by rfl) (by rfl) (by (repeat (first | (with_reducible exact kA) | (with_reducible refine Blk.alloc ?_ _) | (with_reducible refine Blk.drew ?_) | (with_reducible refine Blk.far ?_ (by first | (simp; done) | (simp; omega)) _) | (with_reducible refine Blk.turn ?_ (by with_reducible assumption) (by omega))))) (by rfl) (by kernel_rfl) (by simp [Value.oneCell']) ?_; intro wt kAn ht)
  have hb2 : Below w1.heap.size w1 wt := bturn (balloc (Below.refl _ _) _) ht (Nat.le_refl _)
  have hb02 : Below w.heap.size w wt := bstep hb01 hb2
  have X2 := Lib.hid (X1.out.step hb2)
  have k2 := Lib.hid kAn
  clear kA ht hb1 hb2 X1 kAn hb01
  rename World => w2
  go_wp2_with fail
  refine (HQ.out _ hb02).mono ?_
  rintro x w3 ⟨⟨ds, rfl, hy⟩, hb3⟩
  have Y3 := Lib.hid (hy.mono (T := fun _ => True) fun _ _ _ => trivial)
  obtain ⟨oy, ky, ny, sy, qy, my, ry, By, ly, cy, rfl⟩ := hy.cells
  have kB : Blk (w3.alloc (.cells #[.int .i64 0, .int .i64 0, .int .i64 0, .int .i64 0, .string ⟨#[]⟩, .int .i64 0, .string ⟨#[]⟩, .slice none 0 0] 33)) w3.heap.size 33 #[.int .i64 0, .int .i64 0, .int .i64 0, .int .i64 0, .string ⟨#[]⟩, .int .i64 0, .string ⟨#[]⟩, .slice none 0 0] := Blk.new _ _ _
  have hb03 : Below w.heap.size w w3 := bstep hb02 hb3
  have k3 := Lib.hid (k2.out.step hb3)
  have X3 := Lib.hid (X2.out.step hb3)
  clear hy HQ k2 X2 hb3 hb02
  go_upto_region 5 with (refine wpList_store_blk kB rfl _ _ _ (by rfl) _ (by rfl) (by rfl) (by (repeat (first | (with_reducible exact kB) | (with_reducible refine Blk.alloc ?_ _) | (with_reducible refine Blk.drew ?_) | (with_reducible refine Blk.far ?_ (by first | (simp; done) | (simp; omega)) _) | (with_reducible refine Blk.turn ?_ (by with_reducible assumption) (by omega))))) (by rfl) (by kernel_rfl) (by simp [Value.oneCell']) ?_; intro wt kBn ht)
  have hb4 : Below w3.heap.size w3 wt := bturn (balloc (Below.refl _ _) _) ht (Nat.le_refl _)
  have hb04 : Below w.heap.size w wt := bstep hb03 hb4
  have X4 := Lib.hid (X3.out.step hb4)
  have Y4 := Lib.hid (Y3.out.step hb4)
  have k4 := Lib.hid (k3.out.step hb4)
  have l4 := Lib.hid kBn
  clear kB ht hb4 k3 X3 Y3 kBn hb03
  go_wp2_with fail
  refine (HW.out _ hb04).mono ?_
  rintro _ w5 ⟨rfl, hb5⟩
  have hb05 := bstep hb04 hb5
  have X5 := Lib.hid (X4.out.step hb5)
  have Y5 := Lib.hid (Y4.out.step hb5)
  have k5 := Lib.hid (k4.out.step hb5)
  have l5 := Lib.hid (l4.out.step hb5)
  clear X4 Y4 k4 l4 hb5 hb04 HW
  go_wp2_with fail
  try rw [hS1]
  refine (HZ.out _ hb05).mono ?_
  rintro x w6 ⟨⟨es, rfl, hz⟩, hb6⟩
  have Z6 := Lib.hid (hz.mono (T := fun _ => True) fun _ _ _ => trivial)
  obtain ⟨oz, kz, nz, sz, qz, mz, rz, Bz, lz, cz, rfl⟩ := hz.cells
  have kC : Blk (w6.alloc (.cells #[.int .i64 0, .int .i64 0, .int .i64 0, .int .i64 0, .string ⟨#[]⟩, .int .i64 0, .string ⟨#[]⟩, .slice none 0 0] 33)) w6.heap.size 33 #[.int .i64 0, .int .i64 0, .int .i64 0, .int .i64 0, .string ⟨#[]⟩, .int .i64 0, .string ⟨#[]⟩, .slice none 0 0] := Blk.new _ _ _
  have hb06 : Below w.heap.size w w6 := bstep hb05 hb6
  have X6 := Lib.hid (X5.out.step hb6)
  have Y6 := Lib.hid (Y5.out.step hb6)
  have k6 := Lib.hid (k5.out.step hb6)
  have l6 := Lib.hid (l5.out.step hb6)
  clear hz HZ X5 Y5 k5 l5 hb6 hb05
  go_upto_region 8 with (refine wpList_store_blk kC rfl _ _ _ (by rfl) _ (by rfl) (by rfl) (by (repeat (first | (with_reducible exact kC) | (with_reducible refine Blk.alloc ?_ _) | (with_reducible refine Blk.drew ?_) | (with_reducible refine Blk.far ?_ (by first | (simp; done) | (simp; omega)) _) | (with_reducible refine Blk.turn ?_ (by with_reducible assumption) (by omega))))) (by rfl) (by kernel_rfl) (by simp [Value.oneCell']) ?_; intro wt kCn ht)
  have hb7 : Below w6.heap.size w6 wt := bturn (balloc (Below.refl _ _) _) ht (Nat.le_refl _)
  have hb07 : Below w.heap.size w wt := bstep hb06 hb7
  have X7 := Lib.hid (X6.out.step hb7)
  have Y7 := Lib.hid (Y6.out.step hb7)
  have Z7 := Lib.hid (Z6.out.step hb7)
  have k7 := Lib.hid (k6.out.step hb7)
  have l7 := Lib.hid (l6.out.step hb7)
  have m7 := Lib.hid kCn
  clear kC ht hb7 X6 Y6 Z6 k6 l6 kCn hb06
  rename World => w7
  go_wp2_with fail
  try rw [hS2]
  refine (HV.out _ hb07).mono ?_
  rintro x w8 ⟨⟨vs, rfl, hv⟩, hb8⟩
  have V8 := Lib.hid (hv.mono (T := fun _ => True) fun _ _ _ => trivial)
  obtain ⟨ov, kv, nv, sv, qv, mv, rv, Bv, lv, cv, rfl⟩ := hv.cells
  have kD : Blk (w8.alloc (.cells #[.int .i64 0, .int .i64 0, .int .i64 0, .int .i64 0, .string ⟨#[]⟩, .int .i64 0, .string ⟨#[]⟩, .slice none 0 0] 33)) w8.heap.size 33 #[.int .i64 0, .int .i64 0, .int .i64 0, .int .i64 0, .string ⟨#[]⟩, .int .i64 0, .string ⟨#[]⟩, .slice none 0 0] := Blk.new _ _ _
  have hb08 : Below w.heap.size w w8 := bstep hb07 hb8
  have X8 := Lib.hid (X7.out.step hb8)
  have Y8 := Lib.hid (Y7.out.step hb8)
  have Z8 := Lib.hid (Z7.out.step hb8)
  have k8 := Lib.hid (k7.out.step hb8)
  have l8 := Lib.hid (l7.out.step hb8)
  have m8 := Lib.hid (m7.out.step hb8)
  clear hv HV X7 Y7 Z7 k7 l7 m7 hb8 hb07
  go_upto_region 9 with (refine wpList_store_blk kD rfl _ _ _ (by rfl) _ (by rfl) (by rfl) (by (repeat (first | (with_reducible exact kD) | (with_reducible refine Blk.alloc ?_ _) | (with_reducible refine Blk.drew ?_) | (with_reducible refine Blk.far ?_ (by first | (simp; done) | (simp; omega)) _) | (with_reducible refine Blk.turn ?_ (by with_reducible assumption) (by omega))))) (by rfl) (by kernel_rfl) (by simp [Value.oneCell']) ?_; intro wt kDn ht)
  have hb9 : Below w8.heap.size w8 wt := bturn (balloc (Below.refl _ _) _) ht (Nat.le_refl _)
  have hb09 : Below w.heap.size w wt := bstep hb08 hb9
  have X9 := Lib.hid (X8.out.step hb9)
  have Y9 := Lib.hid (Y8.out.step hb9)
  have Z9 := Lib.hid (Z8.out.step hb9)
  have V9 := Lib.hid (V8.out.step hb9)
  have k9 := Lib.hid (k8.out.step hb9)
  have l9 := Lib.hid (l8.out.step hb9)
  have m9 := Lib.hid (m8.out.step hb9)
  have n9 := Lib.hid kDn
  clear kD ht hb9 X8 Y8 Z8 V8 k8 l8 m8 kDn hb08
  rename World => w9
  clear X9 Y9 Z9 V9 k9 l9 m9 n9
  go_wp2_with fail
  go_returns
  exact ⟨rfl, hb09⟩
set_option maxHeartbeats 8000000 in
set_option maxRecDepth 100000 in
theorem bk_ok (s t S1 S2 : ByteArray) (hS1 : (⟨#[40]⟩ ++ s) ++ ⟨#[41]⟩ = S1) (hS2 : (((⟨#[40]⟩ ++ s) ++ ⟨#[41, 32, 111, 114, 32, 40]⟩) ++ t) ++ ⟨#[41]⟩ = S2) (E F _G _K : Ex) (a b c d : Int) (w : World) (h1 : decide ((1000 : Int) < (s.size : Int)) = false) (h2 : decide ((1000 : Int) < (t.size : Int)) = false)
    (HW : Hid (∀ W, Below w.heap.size w W → Calls Tryz.prog 20 #[] W fun e w' => e = .returned (.bool true) ∧ Below W.heap.size W w'))
    (HP : Hid (∀ W, Below w.heap.size w W → Calls Tryz.prog 16 #[.string s] W fun x w' => (∃ cs, x = .returned (.tuple #[.agg cs, .int .i64 a, .int .i64 0]) ∧ XM (fun g => W.heap.size ≤ g) w' E cs) ∧ Below W.heap.size W w'))
    (HQ : Hid (∀ W, Below w.heap.size w W → Calls Tryz.prog 16 #[.string t] W fun x w' => (∃ cs, x = .returned (.tuple #[.agg cs, .int .i64 b, .int .i64 0]) ∧ XM (fun g => W.heap.size ≤ g) w' F cs) ∧ Below W.heap.size W w'))
    (HZ : Hid (∀ W, Below w.heap.size w W → Calls Tryz.prog 16 #[.string S1] W fun x w' => (∃ cs, x = .returned (.tuple #[.agg cs, .int .i64 c, .int .i64 0]) ∧ XM (fun g => W.heap.size ≤ g) w' E cs) ∧ Below W.heap.size W w'))
    (HV : Hid (∀ W, Below w.heap.size w W → Calls Tryz.prog 16 #[.string S2] W fun x w' => (∃ cs, x = .returned (.tuple #[.agg cs, .int .i64 d, .int .i64 0]) ∧ XM (fun g => W.heap.size ≤ g) w' (.mk 15 zeroV [] [E, F]) cs) ∧ Below W.heap.size W w'))
    (HR : Hid (∀ A ds es W, XM (fun _ => True) W A ds → XM (fun _ => True) W A es → Calls Tryz.prog 31 #[.agg ds, .agg es] W fun e w' => e = .returned (.bool true) ∧ Below W.heap.size W w')) :
    Calls Tryz.prog 10 #[.string s, .string t] w fun e w' => e = .returned (.bool true) ∧ Below w.heap.size w w' := by
  have g1 : ¬ (1000 : Int) < (s.size : Int) := of_decide_eq_false h1
  have g2 : ¬ (1000 : Int) < (t.size : Int) := of_decide_eq_false h2
  have f1 : 1 + s.size ≤ 9223372036854775807 := by omega
  have f2 : ((⟨#[40]⟩ : ByteArray) ++ s).size + 1 ≤ 9223372036854775807 := by rw [ByteArray.size_append]; show 1 + s.size + 1 ≤ _; omega
  have f3 : ((⟨#[40]⟩ : ByteArray) ++ s).size + 6 ≤ 9223372036854775807 := by rw [ByteArray.size_append]; show 1 + s.size + 6 ≤ _; omega
  have f4 : (((⟨#[40]⟩ : ByteArray) ++ s) ++ ⟨#[41, 32, 111, 114, 32, 40]⟩).size + t.size ≤ 9223372036854775807 := by rw [ByteArray.size_append, ByteArray.size_append]; show 1 + s.size + 6 + t.size ≤ _; omega
  have f5 : ((((⟨#[40]⟩ : ByteArray) ++ s) ++ ⟨#[41, 32, 111, 114, 32, 40]⟩) ++ t).size + 1 ≤ 9223372036854775807 := by rw [ByteArray.size_append, ByteArray.size_append, ByteArray.size_append]; show 1 + s.size + 6 + t.size + 1 ≤ _; omega
  go_enter Tryz.func10, Tryz.ntmps10
  go_wp2_with fail
  refine (HP.out _ (by (repeat' (first | (with_reducible exact Below.refl _ _) | (with_reducible assumption) | (with_reducible refine balloc ?_ _) | (with_reducible refine Below.drew ?_) | (with_reducible refine bset ?_ ?_ _) | (with_reducible refine bstep ?_ (by with_reducible assumption)) | (with_reducible refine bturn ?_ (by with_reducible assumption) ?_) | go_size)))).mono ?_
  rintro x w1 ⟨⟨cs, rfl, hx⟩, hb1⟩
  have X1 := Lib.hid (hx.mono (T := fun _ => True) fun _ _ _ => trivial)
  obtain ⟨ox, kx, nx, sx, qx, mx, rx, Bx, lx, cx, rfl⟩ := hx.cells
  have kA : Blk (w1.alloc (.cells #[.int .i64 0, .int .i64 0, .int .i64 0, .int .i64 0, .string ⟨#[]⟩, .int .i64 0, .string ⟨#[]⟩, .slice none 0 0] 33)) w1.heap.size 33 #[.int .i64 0, .int .i64 0, .int .i64 0, .int .i64 0, .string ⟨#[]⟩, .int .i64 0, .string ⟨#[]⟩, .slice none 0 0] := Blk.new _ _ _
  have hb01 : Below w.heap.size w w1 := by (repeat' (first | (with_reducible exact Below.refl _ _) | (with_reducible assumption) | (with_reducible refine balloc ?_ _) | (with_reducible refine Below.drew ?_) | (with_reducible refine bset ?_ ?_ _) | (with_reducible refine bstep ?_ (by with_reducible assumption)) | (with_reducible refine bturn ?_ (by with_reducible assumption) ?_) | go_size))
  clear hx HP
  go_upto_region 4 with (refine wpList_store_blk kA rfl _ _ _ (by rfl) _ (by rfl) (by rfl) (by (repeat (first | (with_reducible exact kA) | (with_reducible refine Blk.alloc ?_ _) | (with_reducible refine Blk.drew ?_) | (with_reducible refine Blk.far ?_ (by first | (simp; done) | (simp; omega)) _) | (with_reducible refine Blk.turn ?_ (by with_reducible assumption) (by omega))))) (by rfl) (by kernel_rfl) (by simp [Value.oneCell']) ?_; intro wt kAn ht)
  have hb2 : Below w1.heap.size w1 wt := bturn (balloc (Below.refl _ _) _) ht (Nat.le_refl _)
  have hb02 : Below w.heap.size w wt := bstep hb01 hb2
  have X2 := Lib.hid (X1.out.step hb2)
  have k2 := Lib.hid kAn
  clear kA ht hb1 hb2 X1 kAn hb01
  rename World => w2
  go_wp2_with fail
  refine (HQ.out _ hb02).mono ?_
  rintro x w3 ⟨⟨ds, rfl, hy⟩, hb3⟩
  have Y3 := Lib.hid (hy.mono (T := fun _ => True) fun _ _ _ => trivial)
  obtain ⟨oy, ky, ny, sy, qy, my, ry, By, ly, cy, rfl⟩ := hy.cells
  have kB : Blk (w3.alloc (.cells #[.int .i64 0, .int .i64 0, .int .i64 0, .int .i64 0, .string ⟨#[]⟩, .int .i64 0, .string ⟨#[]⟩, .slice none 0 0] 33)) w3.heap.size 33 #[.int .i64 0, .int .i64 0, .int .i64 0, .int .i64 0, .string ⟨#[]⟩, .int .i64 0, .string ⟨#[]⟩, .slice none 0 0] := Blk.new _ _ _
  have hb03 : Below w.heap.size w w3 := bstep hb02 hb3
  have k3 := Lib.hid (k2.out.step hb3)
  have X3 := Lib.hid (X2.out.step hb3)
  clear hy HQ k2 X2 hb3 hb02
  go_upto_region 5 with (refine wpList_store_blk kB rfl _ _ _ (by rfl) _ (by rfl) (by rfl) (by (repeat (first | (with_reducible exact kB) | (with_reducible refine Blk.alloc ?_ _) | (with_reducible refine Blk.drew ?_) | (with_reducible refine Blk.far ?_ (by first | (simp; done) | (simp; omega)) _) | (with_reducible refine Blk.turn ?_ (by with_reducible assumption) (by omega))))) (by rfl) (by kernel_rfl) (by simp [Value.oneCell']) ?_; intro wt kBn ht)
  have hb4 : Below w3.heap.size w3 wt := bturn (balloc (Below.refl _ _) _) ht (Nat.le_refl _)
  have hb04 : Below w.heap.size w wt := bstep hb03 hb4
  have X4 := Lib.hid (X3.out.step hb4)
  have Y4 := Lib.hid (Y3.out.step hb4)
  have k4 := Lib.hid (k3.out.step hb4)
  have l4 := Lib.hid kBn
  clear kB ht hb4 k3 X3 Y3 kBn hb03
  go_wp2_with fail
  refine (HW.out _ hb04).mono ?_
  rintro _ w5 ⟨rfl, hb5⟩
  have hb05 := bstep hb04 hb5
  have X5 := Lib.hid (X4.out.step hb5)
  have Y5 := Lib.hid (Y4.out.step hb5)
  have k5 := Lib.hid (k4.out.step hb5)
  have l5 := Lib.hid (l4.out.step hb5)
  clear X4 Y4 k4 l4 hb5 hb04 HW
  go_wp2_with fail
  try rw [hS1]
  refine (HZ.out _ hb05).mono ?_
  rintro x w6 ⟨⟨es, rfl, hz⟩, hb6⟩
  have Z6 := Lib.hid (hz.mono (T := fun _ => True) fun _ _ _ => trivial)
  obtain ⟨oz, kz, nz, sz, qz, mz, rz, Bz, lz, cz, rfl⟩ := hz.cells
  have kC : Blk (w6.alloc (.cells #[.int .i64 0, .int .i64 0, .int .i64 0, .int .i64 0, .string ⟨#[]⟩, .int .i64 0, .string ⟨#[]⟩, .slice none 0 0] 33)) w6.heap.size 33 #[.int .i64 0, .int .i64 0, .int .i64 0, .int .i64 0, .string ⟨#[]⟩, .int .i64 0, .string ⟨#[]⟩, .slice none 0 0] := Blk.new _ _ _
  have hb06 : Below w.heap.size w w6 := bstep hb05 hb6
  have X6 := Lib.hid (X5.out.step hb6)
  have Y6 := Lib.hid (Y5.out.step hb6)
  have k6 := Lib.hid (k5.out.step hb6)
  have l6 := Lib.hid (l5.out.step hb6)
  clear hz HZ X5 Y5 k5 l5 hb6 hb05
  go_upto_region 8 with (refine wpList_store_blk kC rfl _ _ _ (by rfl) _ (by rfl) (by rfl) (by (repeat (first | (with_reducible exact kC) | (with_reducible refine Blk.alloc ?_ _) | (with_reducible refine Blk.drew ?_) | (with_reducible refine Blk.far ?_ (by first | (simp; done) | (simp; omega)) _) | (with_reducible refine Blk.turn ?_ (by with_reducible assumption) (by omega))))) (by rfl) (by kernel_rfl) (by simp [Value.oneCell']) ?_; intro wt kCn ht)
  have hb7 : Below w6.heap.size w6 wt := bturn (balloc (Below.refl _ _) _) ht (Nat.le_refl _)
  have hb07 : Below w.heap.size w wt := bstep hb06 hb7
  have X7 := Lib.hid (X6.out.step hb7)
  have Y7 := Lib.hid (Y6.out.step hb7)
  have Z7 := Lib.hid (Z6.out.step hb7)
  have k7 := Lib.hid (k6.out.step hb7)
  have l7 := Lib.hid (l6.out.step hb7)
  have m7 := Lib.hid kCn
  clear kC ht hb7 X6 Y6 Z6 k6 l6 kCn hb06
  rename World => w7
  go_wp2_with fail
  try rw [hS2]
  refine (HV.out _ hb07).mono ?_
  rintro x w8 ⟨⟨vs, rfl, hv⟩, hb8⟩
  have V8 := Lib.hid (hv.mono (T := fun _ => True) fun _ _ _ => trivial)
  obtain ⟨ov, kv, nv, sv, qv, mv, rv, Bv, lv, cv, rfl⟩ := hv.cells
  have kD : Blk (w8.alloc (.cells #[.int .i64 0, .int .i64 0, .int .i64 0, .int .i64 0, .string ⟨#[]⟩, .int .i64 0, .string ⟨#[]⟩, .slice none 0 0] 33)) w8.heap.size 33 #[.int .i64 0, .int .i64 0, .int .i64 0, .int .i64 0, .string ⟨#[]⟩, .int .i64 0, .string ⟨#[]⟩, .slice none 0 0] := Blk.new _ _ _
  have hb08 : Below w.heap.size w w8 := bstep hb07 hb8
  have X8 := Lib.hid (X7.out.step hb8)
  have Y8 := Lib.hid (Y7.out.step hb8)
  have Z8 := Lib.hid (Z7.out.step hb8)
  have k8 := Lib.hid (k7.out.step hb8)
  have l8 := Lib.hid (l7.out.step hb8)
  have m8 := Lib.hid (m7.out.step hb8)
  clear hv HV X7 Y7 Z7 k7 l7 m7 hb8 hb07
  go_upto_region 9 with (refine wpList_store_blk kD rfl _ _ _ (by rfl) _ (by rfl) (by rfl) (by (repeat (first | (with_reducible exact kD) | (with_reducible refine Blk.alloc ?_ _) | (with_reducible refine Blk.drew ?_) | (with_reducible refine Blk.far ?_ (by first | (simp; done) | (simp; omega)) _) | (with_reducible refine Blk.turn ?_ (by with_reducible assumption) (by omega))))) (by rfl) (by kernel_rfl) (by simp [Value.oneCell']) ?_; intro wt kDn ht)
  have hb9 : Below w8.heap.size w8 wt := bturn (balloc (Below.refl _ _) _) ht (Nat.le_refl _)
  have hb09 : Below w.heap.size w wt := bstep hb08 hb9
  have X9 := Lib.hid (X8.out.step hb9)
  have Y9 := Lib.hid (Y8.out.step hb9)
  have Z9 := Lib.hid (Z8.out.step hb9)
  have V9 := Lib.hid (V8.out.step hb9)
  have k9 := Lib.hid (k8.out.step hb9)
  have l9 := Lib.hid (l8.out.step hb9)
  have m9 := Lib.hid (m8.out.step hb9)
  have n9 := Lib.hid kDn
  clear kD ht hb9 X8 Y8 Z8 V8 k8 l8 m8 kDn hb08
  rename World => w9
  have kk := k9.out
  have mm := m9.out
  have hlu := kk.lt; have hllu := lts hlu; have qu0 := kk.cell 0; have qu1 := kk.cell 1; have qu2 := kk.cell 2; have qu3 := kk.cell 3; have qu4 := kk.cell 4; have qu5 := kk.cell 5; have qu6 := kk.cell 6; have qu7 := kk.cell 7; simp at qu0 qu1 qu2 qu3 qu4 qu5 qu6 qu7; have zu0 := kk.frozen 0; have zu1 := kk.frozen 1; have zu2 := kk.frozen 2; have zu3 := kk.frozen 3; have zu4 := kk.frozen 4; have zu5 := kk.frozen 5; have zu6 := kk.frozen 6; have zu7 := kk.frozen 7; have Hkk := Lib.hid kk; clear kk
  have hlv := mm.lt; have hllv := lts hlv; have qv0 := mm.cell 0; have qv1 := mm.cell 1; have qv2 := mm.cell 2; have qv3 := mm.cell 3; have qv4 := mm.cell 4; have qv5 := mm.cell 5; have qv6 := mm.cell 6; have qv7 := mm.cell 7; simp at qv0 qv1 qv2 qv3 qv4 qv5 qv6 qv7; have zv0 := mm.frozen 0; have zv1 := mm.frozen 1; have zv2 := mm.frozen 2; have zv3 := mm.frozen 3; have zv4 := mm.frozen 4; have zv5 := mm.frozen 5; have zv6 := mm.frozen 6; have zv7 := mm.frozen 7; have Hmm := Lib.hid mm; clear mm
  go_wp2_with (first | (refine wpList_load_blk kk rfl _ _ (by rfl) (by rfl) (by (repeat (first | (with_reducible exact kk) | (with_reducible refine Blk.alloc ?_ _) | (with_reducible refine Blk.drew ?_) | (with_reducible refine Blk.far ?_ (by first | (simp; done) | (simp; omega)) _) | (with_reducible refine Blk.turn ?_ (by with_reducible assumption) (by omega))))) _ Tryz.underlying33 rfl (by kernel_rfl) ?_) | (refine wpList_load_blk mm rfl _ _ (by rfl) (by rfl) (by (repeat (first | (with_reducible exact mm) | (with_reducible refine Blk.alloc ?_ _) | (with_reducible refine Blk.drew ?_) | (with_reducible refine Blk.far ?_ (by first | (simp; done) | (simp; omega)) _) | (with_reducible refine Blk.turn ?_ (by with_reducible assumption) (by omega))))) _ Tryz.underlying33 rfl (by kernel_rfl) ?_))
  refine (HR.out E _ _ _ Z9.out X9.out).mono ?_
  rintro _ w10 ⟨rfl, hb10⟩
  have hb010 := bstep hb09 hb10
  have kx := k9.out.step hb10
  have ky := l9.out.step hb10
  have kv := n9.out.step hb10
  have X10 := Lib.hid (X9.out.step hb10)
  have Y10 := Lib.hid (Y9.out.step hb10)
  have V10 := Lib.hid (V9.out.step hb10)
  clear qu0 zu0 qv0 zv0 qu1 zu1 qv1 zv1 qu2 zu2 qv2 zv2 qu3 zu3 qv3 zv3 qu4 zu4 qv4 zv4 qu5 zu5 qv5 zv5 qu6 zu6 qv6 zv6 qu7 zu7 qv7 zv7 hlu hllu hlv hllv Hkk Hmm
  clear X9 Y9 Z9 V9 k9 l9 m9 n9 hb10 hb09
  have hlu := kx.lt; have hllu := lts hlu; have qu0 := kx.cell 0; have qu1 := kx.cell 1; have qu2 := kx.cell 2; have qu3 := kx.cell 3; have qu4 := kx.cell 4; have qu5 := kx.cell 5; have qu6 := kx.cell 6; have qu7 := kx.cell 7; simp at qu0 qu1 qu2 qu3 qu4 qu5 qu6 qu7; have zu0 := kx.frozen 0; have zu1 := kx.frozen 1; have zu2 := kx.frozen 2; have zu3 := kx.frozen 3; have zu4 := kx.frozen 4; have zu5 := kx.frozen 5; have zu6 := kx.frozen 6; have zu7 := kx.frozen 7; have Hkx := Lib.hid kx; clear kx
  have hlv := ky.lt; have hllv := lts hlv; have qv0 := ky.cell 0; have qv1 := ky.cell 1; have qv2 := ky.cell 2; have qv3 := ky.cell 3; have qv4 := ky.cell 4; have qv5 := ky.cell 5; have qv6 := ky.cell 6; have qv7 := ky.cell 7; simp at qv0 qv1 qv2 qv3 qv4 qv5 qv6 qv7; have zv0 := ky.frozen 0; have zv1 := ky.frozen 1; have zv2 := ky.frozen 2; have zv3 := ky.frozen 3; have zv4 := ky.frozen 4; have zv5 := ky.frozen 5; have zv6 := ky.frozen 6; have zv7 := ky.frozen 7; have Hky := Lib.hid ky; clear ky
  have hlx := kv.lt; have hllx := lts hlx; have qx0 := kv.cell 0; have qx1 := kv.cell 1; have qx2 := kv.cell 2; have qx3 := kv.cell 3; have qx4 := kv.cell 4; have qx5 := kv.cell 5; have qx6 := kv.cell 6; have qx7 := kv.cell 7; simp at qx0 qx1 qx2 qx3 qx4 qx5 qx6 qx7; have zx0 := kv.frozen 0; have zx1 := kv.frozen 1; have zx2 := kv.frozen 2; have zx3 := kv.frozen 3; have zx4 := kv.frozen 4; have zx5 := kv.frozen 5; have zx6 := kv.frozen 6; have zx7 := kv.frozen 7; have Hkv := Lib.hid kv; clear kv
  go_wp2_with (first | (refine wpList_load_blk kx rfl _ _ (by rfl) (by rfl) (by (repeat (first | (with_reducible exact kx) | (with_reducible refine Blk.alloc ?_ _) | (with_reducible refine Blk.drew ?_) | (with_reducible refine Blk.far ?_ (by first | (simp; done) | (simp; omega)) _) | (with_reducible refine Blk.turn ?_ (by with_reducible assumption) (by omega))))) _ Tryz.underlying33 rfl (by kernel_rfl) ?_) | (refine wpList_load_blk ky rfl _ _ (by rfl) (by rfl) (by (repeat (first | (with_reducible exact ky) | (with_reducible refine Blk.alloc ?_ _) | (with_reducible refine Blk.drew ?_) | (with_reducible refine Blk.far ?_ (by first | (simp; done) | (simp; omega)) _) | (with_reducible refine Blk.turn ?_ (by with_reducible assumption) (by omega))))) _ Tryz.underlying33 rfl (by kernel_rfl) ?_) | (refine wpList_load_blk kv rfl _ _ (by rfl) (by rfl) (by (repeat (first | (with_reducible exact kv) | (with_reducible refine Blk.alloc ?_ _) | (with_reducible refine Blk.drew ?_) | (with_reducible refine Blk.far ?_ (by first | (simp; done) | (simp; omega)) _) | (with_reducible refine Blk.turn ?_ (by with_reducible assumption) (by omega))))) _ Tryz.underlying33 rfl (by kernel_rfl) ?_))
  have B11 : Blk (w10.alloc (.cells #[.int .i64 ox, .int .i64 kx, .int .i64 nx, .int .i64 sx, .string qx, .int .i64 mx, .string rx, .slice Bx lx cx, .int .i64 oy, .int .i64 ky, .int .i64 ny, .int .i64 sy, .string qy, .int .i64 my, .string ry, .slice By ly cy] 33)) w10.heap.size 33 #[.int .i64 ox, .int .i64 kx, .int .i64 nx, .int .i64 sx, .string qx, .int .i64 mx, .string rx, .slice Bx lx cx, .int .i64 oy, .int .i64 ky, .int .i64 ny, .int .i64 sy, .string qy, .int .i64 my, .string ry, .slice By ly cy] := Blk.new _ _ _
  have hb11 : Below w10.heap.size w10 (w10.alloc (.cells #[.int .i64 ox, .int .i64 kx, .int .i64 nx, .int .i64 sx, .string qx, .int .i64 mx, .string rx, .slice Bx lx cx, .int .i64 oy, .int .i64 ky, .int .i64 ny, .int .i64 sy, .string qy, .int .i64 my, .string ry, .slice By ly cy] 33)) := balloc (Below.refl _ _) _
  have L11 := XM.two (o := 15) (v := zeroV) (s := []) B11 rfl trivial (X10.out.step hb11) (Y10.out.step hb11) 2
  refine (HR.out (.mk 15 zeroV [] [E, F]) _ _ _ (V10.out.step hb11) L11).mono ?_
  rintro _ w12 ⟨rfl, hb12⟩
  go_wp2_with fail
  go_returns
  exact ⟨by first | rfl | simp, bstep (bstep hb010 hb11) hb12⟩
theorem ebrk_any (hTA : Hid ETextAny) (s t : ByteArray) (m : Int) (w : World) (hw : OKW m w) :
    Calls Tryz.prog 10 #[.string s, .string t] w fun e w' => e = .returned (.bool true) ∧ Below w.heap.size w w' := by
  have HW := Lib.hid fun W (h : Below w.heap.size w W) => awake_ex hTA m W (hw.step h)
  have hsz : s.data.toList.length = s.size := by simp
  have htz : t.data.toList.length = t.size := by simp
  cases h1 : decide ((1000 : Int) < (s.size : Int)) with
  | true => exact bk_big1 s t w h1 HW
  | false =>
    cases h2 : decide ((1000 : Int) < (t.size : Int)) with
    | true => exact bk_big2 s t w h1 h2 HW
    | false =>
      have g1 : ¬ (1000 : Int) < (s.size : Int) := of_decide_eq_false h1
      have g2 : ¬ (1000 : Int) < (t.size : Int) := of_decide_eq_false h2
      have HP := fun W (h : Below w.heap.size w W) => eparse_any m s W (hw.step h) 600001 (by decide)
      have HQ := fun W (h : Below w.heap.size w W) => eparse_any m t W (hw.step h) 600000 (Nat.le_refl _)
      by_cases he : (exprS (lxX m) 600001 soundX s.data.toList).2.2 = 0
      · by_cases hf : (exprS (lxX m) 600000 soundX t.data.toList).2.2 = 0
        · obtain ⟨r1, e1⟩ := rt_of he
          obtain ⟨r2, e2⟩ := rt_of hf
          have hS1 : ((⟨#[40]⟩ : ByteArray) ++ s) ++ ⟨#[41]⟩ = bs (40 :: (s.data.toList ++ [41])) := by
            have e1 : s = bs s.data.toList := bs_of rfl
            rw [e1, show (⟨#[40]⟩ : ByteArray) = bs [40] from rfl, show (⟨#[41]⟩ : ByteArray) = bs [41] from rfl, bs_app, bs_app]
            rfl
          have hS2 : (((((⟨#[40]⟩ : ByteArray) ++ s) ++ ⟨#[41, 32, 111, 114, 32, 40]⟩) ++ t) ++ ⟨#[41]⟩) = bs (40 :: (s.data.toList ++ 41 :: 32 :: ([111, 114] ++ 32 :: 40 :: (t.data.toList ++ [41])))) := by
            have e1 : s = bs s.data.toList := bs_of rfl
            have e2 : t = bs t.data.toList := bs_of rfl
            rw [e1, e2, show (⟨#[40]⟩ : ByteArray) = bs [40] from rfl, show (⟨#[41]⟩ : ByteArray) = bs [41] from rfl, show (⟨#[41, 32, 111, 114, 32, 40]⟩ : ByteArray) = bs [41, 32, 111, 114, 32, 40] from rfl, bs_app, bs_app, bs_app, bs_app]
            congr 1
            simp
            rfl
          have b1 := brackets1 soundX (by omega) r1
          have b2 := brackets2 soundX (by omega) (by omega) r1 r2
          have HZ := fun W (h : Below w.heap.size w W) => eparse_any m (bs (40 :: (s.data.toList ++ [41]))) W (hw.step h) 600009 (by decide)
          have HV := fun W (h : Below w.heap.size w W) => eparse_any m (bs (40 :: (s.data.toList ++ 41 :: 32 :: ([111, 114] ++ 32 :: 40 :: (t.data.toList ++ [41]))))) W (hw.step h) 600009 (by decide)
          rw [show (bs (40 :: (s.data.toList ++ [41]))).data.toList = 40 :: (s.data.toList ++ [41]) from rfl] at HZ
          rw [show (bs (40 :: (s.data.toList ++ 41 :: 32 :: ([111, 114] ++ 32 :: 40 :: (t.data.toList ++ [41]))))).data.toList = 40 :: (s.data.toList ++ 41 :: 32 :: ([111, 114] ++ 32 :: 40 :: (t.data.toList ++ [41]))) from rfl] at HV
          unfold EPOut at HP HQ HZ HV
          rw [e1] at HP
          rw [e2] at HQ
          rcases b1 with b1 | b1
          · rw [b1] at HZ
            exact bk_deep1 s t _ _ hS1 hS2 _ _ _ _ _ _ _ _ _ w h1 h2 HW (Lib.hid HP) (Lib.hid HQ) (Lib.hid HZ) (Lib.hid HV)
          · rw [b1] at HZ
            rcases b2 with b2 | b2
            · rw [b2] at HV
              exact bk_deep2 s t _ _ hS1 hS2 _ _ _ _ _ _ _ _ w h1 h2 HW (Lib.hid HP) (Lib.hid HQ) (Lib.hid HZ) (Lib.hid HV)
            · rw [b2] at HV
              refine bk_ok s t _ _ hS1 hS2 _ _ zeroE zeroE _ _ _ _ w h1 h2 HW (Lib.hid HP) (Lib.hid HQ) (Lib.hid HZ) (Lib.hid HV) (Lib.hid fun A ds es W hd hes => ?_)
              have k := rsame_all W A A ds es W hd hes (Below.refl _ _)
              rw [(eqE_iff A A).2 rfl] at k
              exact k
        · have e1 : (exprS (lxX m) 600001 soundX s.data.toList).2.2 = 0 := he
          unfold EPOut at HP HQ
          rw [e1] at HP
          exact bk_bad2 s t _ _ _ _ 0 _ (by simpa using hf) w h1 h2 HW (Lib.hid HP) (Lib.hid HQ)
      · unfold EPOut at HP HQ
        exact bk_bad1 s t _ _ _ _ _ _ (by simpa using he) w h1 h2 HW (Lib.hid HP) (Lib.hid HQ)
end Go.Proofs.YtkkeplmaphcblaaGreatDoor
