/- The walk of LexParts. The law LexParts at every two texts. -/
import Derived.Test.YtambpkkllgppdaaGreatDoorLexE
import Derived.Deep.DeepCutAuto
namespace Go.Proofs.YtambpkkllgppdaaGreatDoor
open Go.RowKit

theorem tokens_far (s : ByteArray) (h : (65536 : Int) < (s.size : Int)) (w : World) : Calls Tryz.prog 8 #[.string s] w fun e w' => e = .returned (.tuple #[.slice none 0 0, .int .i64 0, .int .i64 10]) ∧ Below w.heap.size w w' := by
  go_enter Tryz.func8, Tryz.ntmps8
  go_wp2
  go_returns
  exact ⟨rfl, by (repeat' (first | (with_reducible exact Below.refl _ _) | (with_reducible assumption) | (with_reducible refine balloc ?_ _) | (with_reducible refine Below.drew ?_) | (with_reducible refine bset ?_ ?_ _) | (with_reducible refine bstep ?_ (by with_reducible assumption)) | (with_reducible refine bturn ?_ (by with_reducible assumption) ?_) | go_size))⟩
theorem tokens_all (x : Lx) (m : Int) (H : LxOK x m) (s : ByteArray) (l : Bs) (hl : s.data.toList = l) (w : World) (hw : OKW m w) :
    Calls Tryz.prog 8 #[.string s] w fun e w' => (∃ A c, e = .returned (.tuple #[.slice A (toksS x l).l.length c, .int .i64 ((toksS x l).n : Int), .int .i64 (toksS x l).e]) ∧ TM w' A (toksS x l).l ∧ (toksS x l).l.length ≤ c ∧ c ≤ maxLen) ∧ Below w.heap.size w w' := by
  by_cases h : s.size ≤ 65536
  · exact tokens_any x m H s l hl h w hw
  · have hll : l.length = s.size := by rw [← hl, size_list]
    have hT : toksS x l = ⟨[], 0, 10⟩ := by unfold toksS; rw [if_pos (by omega)]
    rw [hT]
    refine (tokens_far s (by omega) w).mono ?_
    rintro _ w' ⟨rfl, hb⟩
    exact ⟨⟨none, 0, rfl, TM.nil _ _, Nat.le_refl _, by unfold maxLen; omega⟩, hb⟩
def lawP (s : ByteArray) (x : Lx) : Tks := toksS x s.data.toList
theorem TM.take {w : World} {A : Option Addr} {L M : List Tk} (h : TM w A (L ++ M)) : TM w A L := fun i t ht => h i t (by
  rw [List.getElem?_append_left (List.getElem?_eq_some_iff.1 ht).1]; exact ht)
theorem TM.drop {w : World} {g o : Nat} {L M : List Tk} (h : TM w (some ⟨g, o, none⟩) (L ++ M)) : TM w (some ⟨g, o + L.length * 6, none⟩) M := fun i t ht => by
  obtain ⟨g', o', e, hc⟩ := h (L.length + i) t (by rw [List.getElem?_append_right (by omega), Nat.add_sub_cancel_left]; exact ht)
  cases e
  exact ⟨g, _, rfl, fun j v hj => by rw [← hc j v hj]; congr 2; omega⟩

theorem TM.dropMap {w : World} {A : Option Addr} {L M : List Tk} {n : Nat} (h : TM w A (L ++ M)) (hn : L.length = n) : TM w (Option.map (fun x => x.add (n * 6)) A) M := fun i t ht => by
  obtain ⟨g, o, e, hc⟩ := h (L.length + i) t (by rw [List.getElem?_append_right (by omega), Nat.add_sub_cancel_left]; exact ht)
  refine ⟨g, o + n * 6, ?_, fun j v hj => ?_⟩
  · rw [e]
    show some ((⟨g, o, none⟩ : Addr).add (n * 6)) = _
    congr 1
    unfold Addr.add
    split
    · rename_i h0; rw [h0, Nat.add_zero]
    · rfl
  · rw [← hc j v hj, hn]
    congr 2
    omega
set_option maxHeartbeats 4000000 in
set_option maxRecDepth 100000 in
theorem parts_bad (a b : ByteArray) (X Y : Tks) (w : World) (hX : ¬ X.e = 0)
    (HA : Hid (∀ W, Below w.heap.size w W → Calls Tryz.prog 8 #[.string a] W fun e w' => (∃ A c, e = .returned (.tuple #[.slice A X.l.length c, .int .i64 (X.n : Int), .int .i64 X.e]) ∧ TM w' A X.l ∧ X.l.length ≤ c ∧ c ≤ maxLen) ∧ Below W.heap.size W w'))
    (HB : Hid (∀ W, Below w.heap.size w W → Calls Tryz.prog 8 #[.string b] W fun e w' => (∃ A c, e = .returned (.tuple #[.slice A Y.l.length c, .int .i64 (Y.n : Int), .int .i64 Y.e]) ∧ TM w' A Y.l ∧ Y.l.length ≤ c ∧ c ≤ maxLen) ∧ Below W.heap.size W w'))
    (HW : Hid (∀ W, Below w.heap.size w W → Calls Tryz.prog 10 #[] W fun e w' => e = .returned (.bool true) ∧ Below W.heap.size W w')) :
    Calls Tryz.prog 7 #[.string a, .string b] w fun e w' => e = .returned (.bool true) ∧ Below w.heap.size w w' := by
  have hX2 : (X.e != 0) = true := by simpa using hX
  clear hX
  go_enter Tryz.func7, Tryz.ntmps7
  go_wp2_with fail
  refine (HA.out _ (by (repeat' (first | (with_reducible exact Below.refl _ _) | (with_reducible assumption) | (with_reducible refine balloc ?_ _) | (with_reducible refine Below.drew ?_) | (with_reducible refine bset ?_ ?_ _) | (with_reducible refine bstep ?_ (by with_reducible assumption)) | (with_reducible refine bturn ?_ (by with_reducible assumption) ?_) | go_size)))).mono ?_
  rintro _ w1 ⟨⟨A, c, rfl, hM⟩, hb1⟩
  clear hM
  go_wp2_with fail
  refine (HB.out _ (by (repeat' (first | (with_reducible exact Below.refl _ _) | (with_reducible assumption) | (with_reducible refine balloc ?_ _) | (with_reducible refine Below.drew ?_) | (with_reducible refine bset ?_ ?_ _) | (with_reducible refine bstep ?_ (by with_reducible assumption)) | (with_reducible refine bturn ?_ (by with_reducible assumption) ?_) | go_size)))).mono ?_
  rintro _ w2 ⟨⟨B, d, rfl, hM⟩, hb2⟩
  clear hM
  go_wp2_with fail
  refine (HW.out _ (by (repeat' (first | (with_reducible exact Below.refl _ _) | (with_reducible assumption) | (with_reducible refine balloc ?_ _) | (with_reducible refine Below.drew ?_) | (with_reducible refine bset ?_ ?_ _) | (with_reducible refine bstep ?_ (by with_reducible assumption)) | (with_reducible refine bturn ?_ (by with_reducible assumption) ?_) | go_size)))).mono ?_
  rintro _ w3 ⟨rfl, hb3⟩
  go_wp2_with fail
  refine (HW.out _ (by (repeat' (first | (with_reducible exact Below.refl _ _) | (with_reducible assumption) | (with_reducible refine balloc ?_ _) | (with_reducible refine Below.drew ?_) | (with_reducible refine bset ?_ ?_ _) | (with_reducible refine bstep ?_ (by with_reducible assumption)) | (with_reducible refine bturn ?_ (by with_reducible assumption) ?_) | go_size)))).mono ?_
  rintro _ w4 ⟨rfl, hb4⟩
  go_wp2_with fail
  go_returns
  exact ⟨rfl, by (repeat' (first | (with_reducible exact Below.refl _ _) | (with_reducible assumption) | (with_reducible refine balloc ?_ _) | (with_reducible refine Below.drew ?_) | (with_reducible refine bset ?_ ?_ _) | (with_reducible refine bstep ?_ (by with_reducible assumption)) | (with_reducible refine bturn ?_ (by with_reducible assumption) ?_) | go_size))⟩

set_option maxHeartbeats 4000000 in
set_option maxRecDepth 100000 in
theorem parts_long (a b : ByteArray) (X Y : Tks) (w : World) (hX : X.e = 0) (hn : (65536 : Int) ≤ (a.size : Int) + (b.size : Int)) (hnw : IntKind.i64.wrap ((a.size : Int) + (b.size : Int)) = (a.size : Int) + (b.size : Int))
    (HA : Hid (∀ W, Below w.heap.size w W → Calls Tryz.prog 8 #[.string a] W fun e w' => (∃ A c, e = .returned (.tuple #[.slice A X.l.length c, .int .i64 (X.n : Int), .int .i64 X.e]) ∧ TM w' A X.l ∧ X.l.length ≤ c ∧ c ≤ maxLen) ∧ Below W.heap.size W w'))
    (HB : Hid (∀ W, Below w.heap.size w W → Calls Tryz.prog 8 #[.string b] W fun e w' => (∃ A c, e = .returned (.tuple #[.slice A Y.l.length c, .int .i64 (Y.n : Int), .int .i64 Y.e]) ∧ TM w' A Y.l ∧ Y.l.length ≤ c ∧ c ≤ maxLen) ∧ Below W.heap.size W w'))
    (HW : Hid (∀ W, Below w.heap.size w W → Calls Tryz.prog 10 #[] W fun e w' => e = .returned (.bool true) ∧ Below W.heap.size W w')) :
    Calls Tryz.prog 7 #[.string a, .string b] w fun e w' => e = .returned (.bool true) ∧ Below w.heap.size w w' := by
  go_enter Tryz.func7, Tryz.ntmps7
  go_wp2_with fail
  refine (HA.out _ (by (repeat' (first | (with_reducible exact Below.refl _ _) | (with_reducible assumption) | (with_reducible refine balloc ?_ _) | (with_reducible refine Below.drew ?_) | (with_reducible refine bset ?_ ?_ _) | (with_reducible refine bstep ?_ (by with_reducible assumption)) | (with_reducible refine bturn ?_ (by with_reducible assumption) ?_) | go_size)))).mono ?_
  rintro _ w1 ⟨⟨A, c, rfl, hM⟩, hb1⟩
  clear hM
  go_wp2_with fail
  refine (HB.out _ (by (repeat' (first | (with_reducible exact Below.refl _ _) | (with_reducible assumption) | (with_reducible refine balloc ?_ _) | (with_reducible refine Below.drew ?_) | (with_reducible refine bset ?_ ?_ _) | (with_reducible refine bstep ?_ (by with_reducible assumption)) | (with_reducible refine bturn ?_ (by with_reducible assumption) ?_) | go_size)))).mono ?_
  rintro _ w2 ⟨⟨B, d, rfl, hM⟩, hb2⟩
  clear hM
  go_wp2_with fail
  refine (HW.out _ (by (repeat' (first | (with_reducible exact Below.refl _ _) | (with_reducible assumption) | (with_reducible refine balloc ?_ _) | (with_reducible refine Below.drew ?_) | (with_reducible refine bset ?_ ?_ _) | (with_reducible refine bstep ?_ (by with_reducible assumption)) | (with_reducible refine bturn ?_ (by with_reducible assumption) ?_) | go_size)))).mono ?_
  rintro _ w3 ⟨rfl, hb3⟩
  go_wp2_with fail
  refine (HW.out _ (by (repeat' (first | (with_reducible exact Below.refl _ _) | (with_reducible assumption) | (with_reducible refine balloc ?_ _) | (with_reducible refine Below.drew ?_) | (with_reducible refine bset ?_ ?_ _) | (with_reducible refine bstep ?_ (by with_reducible assumption)) | (with_reducible refine bturn ?_ (by with_reducible assumption) ?_) | go_size)))).mono ?_
  rintro _ w4 ⟨rfl, hb4⟩
  go_wp2_with fail
  go_returns
  exact ⟨rfl, by (repeat' (first | (with_reducible exact Below.refl _ _) | (with_reducible assumption) | (with_reducible refine balloc ?_ _) | (with_reducible refine Below.drew ?_) | (with_reducible refine bset ?_ ?_ _) | (with_reducible refine bstep ?_ (by with_reducible assumption)) | (with_reducible refine bturn ?_ (by with_reducible assumption) ?_) | go_size))⟩

set_option maxHeartbeats 4000000 in
set_option maxRecDepth 100000 in
theorem parts_err (a b c : ByteArray) (X Y : Tks) (w : World) (hX : X.e = 0) (hY : (Y.e != 0) = true) (hYn : Y.n ≤ 65536) (hn : decide ((65536 : Int) ≤ (a.size : Int) + (b.size : Int)) = false) (hnw : IntKind.i64.wrap ((a.size : Int) + (b.size : Int)) = (a.size : Int) + (b.size : Int)) (ha : a.size ≤ 65536) (hbs : b.size ≤ 65536) (hc : a ++ ⟨#[32]⟩ ++ b = c)
    (HA : Hid (∀ W, Below w.heap.size w W → Calls Tryz.prog 8 #[.string a] W fun e w' => (∃ A c, e = .returned (.tuple #[.slice A X.l.length c, .int .i64 (X.n : Int), .int .i64 X.e]) ∧ TM w' A X.l ∧ X.l.length ≤ c ∧ c ≤ maxLen) ∧ Below W.heap.size W w'))
    (HB : Hid (∀ W, Below w.heap.size w W → Calls Tryz.prog 8 #[.string b] W fun e w' => (∃ A c, e = .returned (.tuple #[.slice A Y.l.length c, .int .i64 (Y.n : Int), .int .i64 Y.e]) ∧ TM w' A Y.l ∧ Y.l.length ≤ c ∧ c ≤ maxLen) ∧ Below W.heap.size W w'))
    (HC : Hid (∀ W, Below w.heap.size w W → Calls Tryz.prog 8 #[.string c] W fun e w' => (∃ A c, e = .returned (.tuple #[.slice A 0 c, .int .i64 ((a.size : Int) + 1 + (Y.n : Int)), .int .i64 Y.e])) ∧ Below W.heap.size W w'))
    (HW : Hid (∀ W, Below w.heap.size w W → Calls Tryz.prog 10 #[] W fun e w' => e = .returned (.bool true) ∧ Below W.heap.size W w')) :
    Calls Tryz.prog 7 #[.string a, .string b] w fun e w' => e = .returned (.bool true) ∧ Below w.heap.size w w' := by
  go_enter Tryz.func7, Tryz.ntmps7
  go_wp2_with fail
  refine (HA.out _ (by (repeat' (first | (with_reducible exact Below.refl _ _) | (with_reducible assumption) | (with_reducible refine balloc ?_ _) | (with_reducible refine Below.drew ?_) | (with_reducible refine bset ?_ ?_ _) | (with_reducible refine bstep ?_ (by with_reducible assumption)) | (with_reducible refine bturn ?_ (by with_reducible assumption) ?_) | go_size)))).mono ?_
  rintro _ w1 ⟨⟨A, c1, rfl, hM⟩, hb1⟩
  clear hM
  go_wp2_with fail
  refine (HB.out _ (by (repeat' (first | (with_reducible exact Below.refl _ _) | (with_reducible assumption) | (with_reducible refine balloc ?_ _) | (with_reducible refine Below.drew ?_) | (with_reducible refine bset ?_ ?_ _) | (with_reducible refine bstep ?_ (by with_reducible assumption)) | (with_reducible refine bturn ?_ (by with_reducible assumption) ?_) | go_size)))).mono ?_
  rintro _ w2 ⟨⟨B, d, rfl, hM⟩, hb2⟩
  clear hM
  go_wp2_with fail
  refine (HW.out _ (by (repeat' (first | (with_reducible exact Below.refl _ _) | (with_reducible assumption) | (with_reducible refine balloc ?_ _) | (with_reducible refine Below.drew ?_) | (with_reducible refine bset ?_ ?_ _) | (with_reducible refine bstep ?_ (by with_reducible assumption)) | (with_reducible refine bturn ?_ (by with_reducible assumption) ?_) | go_size)))).mono ?_
  rintro _ w3 ⟨rfl, hb3⟩
  go_upto_region 5 with fail

  go_wp2_with fail
  refine (HC.out _ (by (repeat' (first | (with_reducible exact Below.refl _ _) | (with_reducible assumption) | (with_reducible refine balloc ?_ _) | (with_reducible refine Below.drew ?_) | (with_reducible refine bset ?_ ?_ _) | (with_reducible refine bstep ?_ (by with_reducible assumption)) | (with_reducible refine bturn ?_ (by with_reducible assumption) ?_) | go_size)))).mono ?_
  rintro _ w4 ⟨⟨C, c4, rfl⟩, hb4⟩
  go_wp2_with fail
  go_returns
  exact ⟨by first | rfl | simp, by (repeat' (first | (with_reducible exact Below.refl _ _) | (with_reducible assumption) | (with_reducible refine balloc ?_ _) | (with_reducible refine Below.drew ?_) | (with_reducible refine bset ?_ ?_ _) | (with_reducible refine bstep ?_ (by with_reducible assumption)) | (with_reducible refine bturn ?_ (by with_reducible assumption) ?_) | go_size))⟩

set_option maxHeartbeats 4000000 in
set_option maxRecDepth 100000 in
theorem parts_good (a b c : ByteArray) (X Y : Tks) (YS : List Tk) (n1 n2 n3 : Nat) (h3 : n1 + n2 = n3) (w : World) (hX : X.e = 0) (hY : Y.e = 0) (hn1 : X.l.length = n1) (hn2 : Y.l.length = n2) (hYS : Hid (YS.length = n2 ∧ ∀ (i : Nat) (t u : Tk), YS[i]? = some t → Y.l[i]? = some u → t.k = u.k ∧ t.t = u.t ∧ t.n = u.n ∧ t.s = u.s ∧ t.m = u.m ∧ (false = true → t.a = u.a))) (h1 : n1 ≤ 100000) (h2 : n2 ≤ 100000) (hn : decide ((65536 : Int) ≤ (a.size : Int) + (b.size : Int)) = false) (hnw : IntKind.i64.wrap ((a.size : Int) + (b.size : Int)) = (a.size : Int) + (b.size : Int)) (ha : a.size ≤ 65536) (hbs : b.size ≤ 65536) (hc : a ++ ⟨#[32]⟩ ++ b = c)
    (HA : Hid (∀ W, Below w.heap.size w W → Calls Tryz.prog 8 #[.string a] W fun e w' => (∃ A c, e = .returned (.tuple #[.slice A n1 c, .int .i64 (X.n : Int), .int .i64 X.e]) ∧ TM w' A X.l) ∧ Below W.heap.size W w'))
    (HB : Hid (∀ W, Below w.heap.size w W → Calls Tryz.prog 8 #[.string b] W fun e w' => (∃ A c, e = .returned (.tuple #[.slice A n2 c, .int .i64 (Y.n : Int), .int .i64 Y.e]) ∧ TM w' A Y.l) ∧ Below W.heap.size W w'))
    (HC : Hid (∀ W, Below w.heap.size w W → Calls Tryz.prog 8 #[.string c] W fun e w' => (∃ A c, e = .returned (.tuple #[.slice A n3 c, .int .i64 0, .int .i64 0]) ∧ TM w' A (X.l ++ YS) ∧ n3 ≤ c ∧ c ≤ maxLen) ∧ Below W.heap.size W w'))
    (HW : Hid (∀ W, Below w.heap.size w W → Calls Tryz.prog 10 #[] W fun e w' => e = .returned (.bool true) ∧ Below W.heap.size W w')) :
    Calls Tryz.prog 7 #[.string a, .string b] w fun e w' => e = .returned (.bool true) ∧ Below w.heap.size w w' := by
  have HX := Lib.hid hn1
  have HY := Lib.hid hn2
  clear hn1 hn2
  go_enter Tryz.func7, Tryz.ntmps7
  go_wp2_with fail
  refine (HA.out _ (by (repeat' (first | (with_reducible exact Below.refl _ _) | (with_reducible assumption) | (with_reducible refine balloc ?_ _) | (with_reducible refine Below.drew ?_) | (with_reducible refine bset ?_ ?_ _) | (with_reducible refine bstep ?_ (by with_reducible assumption)) | (with_reducible refine bturn ?_ (by with_reducible assumption) ?_) | go_size)))).mono ?_
  rintro _ w1 ⟨⟨A, c1, rfl, hMA⟩, hb1⟩
  have HMA := Lib.hid hMA
  clear hMA
  go_wp2_with fail
  refine (HB.out _ (by (repeat' (first | (with_reducible exact Below.refl _ _) | (with_reducible assumption) | (with_reducible refine balloc ?_ _) | (with_reducible refine Below.drew ?_) | (with_reducible refine bset ?_ ?_ _) | (with_reducible refine bstep ?_ (by with_reducible assumption)) | (with_reducible refine bturn ?_ (by with_reducible assumption) ?_) | go_size)))).mono ?_
  rintro _ w2 ⟨⟨B, d, rfl, hMB⟩, hb2⟩
  have HMB := Lib.hid hMB
  clear hMB
  go_wp2_with fail
  refine (HW.out _ (by (repeat' (first | (with_reducible exact Below.refl _ _) | (with_reducible assumption) | (with_reducible refine balloc ?_ _) | (with_reducible refine Below.drew ?_) | (with_reducible refine bset ?_ ?_ _) | (with_reducible refine bstep ?_ (by with_reducible assumption)) | (with_reducible refine bturn ?_ (by with_reducible assumption) ?_) | go_size)))).mono ?_
  rintro _ w3 ⟨rfl, hb3⟩
  go_wp2_with fail
  refine (HC.out _ (by (repeat' (first | (with_reducible exact Below.refl _ _) | (with_reducible assumption) | (with_reducible refine balloc ?_ _) | (with_reducible refine Below.drew ?_) | (with_reducible refine bset ?_ ?_ _) | (with_reducible refine bstep ?_ (by with_reducible assumption)) | (with_reducible refine bturn ?_ (by with_reducible assumption) ?_) | go_size)))).mono ?_
  rintro _ w4 ⟨⟨C, c4, rfl, hMC, hk1, hk2⟩, hb4⟩
  have HMC := Lib.hid hMC
  clear hMC
  unfold maxLen at hk2
  have kk : (n1 : Int) + (n2 : Int) = (n3 : Int) := by omega
  have kw : IntKind.i64.wrap (n3 : Int) = (n3 : Int) := IntWalk.i64_in _ (by omega)
  have k13 : (n1 : Int) ≤ (n3 : Int) := by omega
  have k1c : (n1 : Int) ≤ (c4 : Int) := by omega
  have H3 := Lib.hid h3
  clear h3
  go_wp2_with fail
  refine (same_ok true X.l X.l n1 HX.out HX.out (by omega) _ _ _ _ _ HMC.out.take ((HMA.out.step hb2).step hb3 |>.step hb4) (fun i t u ht hu => by rw [ht] at hu; cases hu; exact ⟨rfl, rfl, rfl, rfl, rfl, fun _ => rfl⟩)).mono ?_
  rintro _ w5 ⟨rfl, hb5⟩
  go_wp2_with fail
  all_goals
    rw [show n3 - n1 = n2 by have := H3.out; omega]
    refine (same_ok false YS Y.l n2 hYS.out.1 HY.out (by omega) _ _ _ _ _ (by first | exact (HMC.out.step hb5).dropMap HX.out | (have h0 : YS = [] := List.eq_nil_of_length_eq_zero (by have := hYS.out.1; have := H3.out; omega); rw [h0]; exact TM.nil _ _)) (((HMB.out.step hb3).step hb4).step hb5) hYS.out.2).mono ?_
    rintro _ w6 ⟨rfl, hb6⟩
    go_wp2_with fail
    go_returns
    exact ⟨by first | rfl | simp, by (repeat' (first | (with_reducible exact Below.refl _ _) | (with_reducible assumption) | (with_reducible refine balloc ?_ _) | (with_reducible refine Below.drew ?_) | (with_reducible refine bset ?_ ?_ _) | (with_reducible refine bstep ?_ (by with_reducible assumption)) | (with_reducible refine bturn ?_ (by with_reducible assumption) ?_) | go_size))⟩
end Go.Proofs.YtambpkkllgppdaaGreatDoor

namespace Go.Proofs.YtambpkkllgppdaaGreatDoor
open Go.RowKit

theorem toks_len (x : Lx) : ∀ (f a : Nat) (l : Bs) (acc : List Tk), (toksA x f a l acc).l.length ≤ acc.length + l.length ∧ (toksA x f a l acc).n ≤ a + l.length
  | 0, a, l, acc => by simp only [toksA]; omega
  | f + 1, a, l, acc => by
    cases hd : l.drop (runS whites l) with
    | nil => rw [toksA_end hd]; simp only; omega
    | cons c r =>
      have hl := len_drop hd
      by_cases he : (nextS x (c :: r)).e = 0
      · have hb := next_bd x _ he
        rw [toksA_go hd he]
        have := toks_len x f (a + runS whites l + (nextS x (c :: r)).n) ((c :: r).drop (nextS x (c :: r)).n) (acc ++ [{ (nextS x (c :: r)).t with a := a + runS whites l }])
        rw [List.length_append, List.length_singleton, List.length_drop] at this
        omega
      · rw [toksA_bad hd he]
        simp only [List.length_nil]
        omega
theorem toksS_len (x : Lx) (l : Bs) : (toksS x l).l.length ≤ 65536 ∧ (toksS x l).n ≤ 65536 := by
  unfold toksS
  split
  · simp
  · have := toks_len x (l.length + 1) 0 l []
    simp only [List.length_nil] at this
    omega

theorem partslaw_any (m : Int) (a b : ByteArray) (ha : a.size ≤ 1000000000000000000) (hb : b.size ≤ 1000000000000000000) (w : World) (hw : OKW m w) :
    Calls Tryz.prog 7 #[.string a, .string b] w fun e w' => e = .returned (.bool true) ∧ Below w.heap.size w w' := by
  have HA := fun W (h : Below w.heap.size w W) => tokens_all (lxX m) m (lx_ok m) a _ rfl W (hw.step h)
  have HB := fun W (h : Below w.heap.size w W) => tokens_all (lxX m) m (lx_ok m) b _ rfl W (hw.step h)
  have HW := fun W (h : Below w.heap.size w W) => awake_lex m W (hw.step h)
  have hP := toksS_parts (lxX m) a.data.toList b.data.toList
  have lX := toksS_len (lxX m) a.data.toList
  have lY := toksS_len (lxX m) b.data.toList
  obtain ⟨X, hX⟩ : ∃ X, toksS (lxX m) a.data.toList = X := ⟨_, rfl⟩
  obtain ⟨Y, hY⟩ : ∃ Y, toksS (lxX m) b.data.toList = Y := ⟨_, rfl⟩
  rw [hX] at HA hP lX
  rw [hY] at HB hP lY
  have hnw : IntKind.i64.wrap ((a.size : Int) + (b.size : Int)) = (a.size : Int) + (b.size : Int) := IntWalk.i64_in _ (by omega)
  by_cases hXe : X.e = 0
  · by_cases hn : (65536 : Int) ≤ (a.size : Int) + (b.size : Int)
    · exact parts_long a b X Y w hXe hn hnw (Lib.hid HA) (Lib.hid HB) (Lib.hid HW)
    · have hsum : a.data.toList.length + b.data.toList.length < 65536 := by rw [size_list, size_list]; omega
      obtain ⟨c, hc⟩ : ∃ c, a ++ ⟨#[32]⟩ ++ b = c := ⟨_, rfl⟩
      have hcl : c.data.toList = a.data.toList ++ 32 :: b.data.toList := by
        rw [← hc, ByteArray.data_append, Array.toList_append, ByteArray.data_append, Array.toList_append, List.append_assoc]
        rfl
      have HC := fun W (h : Below w.heap.size w W) => tokens_all (lxX m) m (lx_ok m) c _ hcl W (hw.step h)
      rw [hP hXe hsum] at HC
      by_cases hYe : Y.e = 0
      · rw [if_pos hYe] at HC
        simp only [List.length_append, List.length_map] at HC
        refine parts_good a b c X Y (Y.l.map (shiftT (a.data.toList.length + 1))) X.l.length Y.l.length (X.l.length + Y.l.length) rfl w hXe hYe rfl rfl (Lib.hid ⟨by rw [List.length_map], ?_⟩) (by omega) (by omega) (decide_eq_false hn) hnw (by omega) (by omega) hc (Lib.hid (fun W h => (HA W h).mono ?_)) (Lib.hid (fun W h => (HB W h).mono ?_)) (Lib.hid HC) (Lib.hid HW)
        · intro i t u ht hu
          rw [List.getElem?_map, hu] at ht
          cases ht
          exact ⟨rfl, rfl, rfl, rfl, rfl, fun h => by cases h⟩
        · rintro e w' ⟨⟨A, k, rfl, hM, _⟩, hb⟩
          exact ⟨⟨A, k, rfl, hM⟩, hb⟩
        · rintro e w' ⟨⟨A, k, rfl, hM, _⟩, hb⟩
          exact ⟨⟨A, k, rfl, hM⟩, hb⟩
      · rw [if_neg hYe] at HC
        refine parts_err a b c X Y w hXe (by simpa using hYe) (by omega) (decide_eq_false hn) hnw (by omega) (by omega) hc (Lib.hid HA) (Lib.hid HB) (Lib.hid (fun W h => (HC W h).mono ?_)) (Lib.hid HW)
        rintro e w' ⟨⟨A, k, rfl, _⟩, hb⟩
        refine ⟨⟨A, k, ?_⟩, hb⟩
        have e1 : ((Y.n + (a.data.toList.length + 1) : Nat) : Int) = (a.size : Int) + 1 + (Y.n : Int) := by rw [size_list]; omega
        simp only [e1]
        rfl
  · exact parts_bad a b X Y w hXe (Lib.hid HA) (Lib.hid HB) (Lib.hid HW)
end Go.Proofs.YtambpkkllgppdaaGreatDoor
