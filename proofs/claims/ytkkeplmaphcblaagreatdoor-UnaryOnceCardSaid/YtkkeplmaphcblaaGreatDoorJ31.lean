/- What layer 9's awake finds, and the walks of the laws of unary. Printed by gunl.py. The walks of the laws UnaryOnce and UnaryTurned. -/
import Derived.Test.YtkkeplmaphcblaaGreatDoorJ25
import Derived.Test.YtkkeplmaphcblaaGreatDoorJ26
import Derived.Test.YtkkeplmaphcblaaGreatDoorJ30
import Derived.Test.YtkkeplmaphcblaaGreatDoorJ23
namespace Go.Proofs.YtkkeplmaphcblaaGreatDoor
open Go.RowKit Go.Shelf

def aw1 : Bs := [110, 111, 116, 40, 32, 60, 32, 53, 44, 32, 91, 49, 46, 46, 50, 41, 44, 32, 45, 51, 44, 32, 34, 120, 34, 32, 41]
def aw2 : Bs := [110, 111, 116, 40, 60, 32, 53, 44, 32, 91, 49, 46, 46, 50, 41, 44, 32, 45, 51, 44, 32, 34, 120, 34, 41]
def aw9 : Tsts := ⟨false, true, [⟨2, ⟨1, 5, 0, [], 0⟩, zeroV, false, false⟩, ⟨6, ⟨1, 1, 0, [], 0⟩, ⟨1, 2, 0, [], 0⟩, false, true⟩, ⟨1, ⟨1, -3, 0, [], 0⟩, zeroV, false, false⟩, ⟨1, ⟨2, 0, 0, [120], 0⟩, zeroV, false, false⟩]⟩
theorem aw9_vs : ∀ u ∈ aw9.l, tSound u := by
  have n5 : vSound ⟨1, 5, 0, [], 0⟩ := .inr (.inl ⟨rfl, by decide +kernel, rfl, rfl⟩)
  have n1 : vSound ⟨1, 1, 0, [], 0⟩ := .inr (.inl ⟨rfl, by decide +kernel, rfl, rfl⟩)
  have n2 : vSound ⟨1, 2, 0, [], 0⟩ := .inr (.inl ⟨rfl, by decide +kernel, rfl, rfl⟩)
  have n3 : vSound ⟨1, -3, 0, [], 0⟩ := .inr (.inl ⟨rfl, by decide +kernel, rfl, rfl⟩)
  have nx : vSound ⟨2, 0, 0, [120], 0⟩ := .inr (.inr (.inl ⟨rfl, rfl, rfl, rfl, by decide, by decide +kernel⟩))
  intro u hu
  simp only [aw9, List.mem_cons, List.not_mem_nil, or_false] at hu
  rcases hu with rfl | rfl | rfl | rfl
  · exact ⟨n5, zero_vs, .inr ⟨.inr ⟨.inl rfl, .inl rfl⟩, rfl, rfl, rfl⟩⟩
  · exact ⟨n1, n2, .inl ⟨rfl, .inl rfl, rfl⟩⟩
  · exact ⟨n3, zero_vs, .inr ⟨.inl rfl, rfl, rfl, rfl⟩⟩
  · exact ⟨nx, zero_vs, .inr ⟨.inl rfl, rfl, rfl, rfl⟩⟩
theorem aw9_ts : tsSound aw9 := by
  unfold tsSound
  rw [if_neg (by decide)]
  exact ⟨by decide, by decide, aw9_vs⟩
theorem aw9_txt : utxt aw9 = aw2 := by kernel_rfl
theorem ltxt_aw9 : ltxt aw9.l = [60, 32, 53, 44, 32, 91, 49, 46, 46, 50, 41, 44, 32, 45, 51, 44, 32, 34, 120, 34] := by kernel_rfl
theorem tok_tst {t : Tst} (h : tSound t) : TOk t := by
  obtain ⟨h1, h2, h3⟩ := h
  refine ⟨?_, vs_ok h1, vs_ok h2⟩
  rcases h3 with ⟨h, _⟩ | ⟨h | ⟨h | h | h | h, _⟩, _⟩ <;> rw [h] <;> exact ⟨by decide, by decide⟩
/-- A text with the tokens of sound tests is read as those. -/
theorem read_of {m : Int} {l : Bs} {t : Tsts} (ht : tsSound t) (ha : ¬ t.any = true) (hr : Reads (lxX m) l (utoks t)) (hl : l.length ≤ 65536) (hA : isAny l = false) : unaryS (lxX m) l = (t, 0, 0) := by
  obtain ⟨T', h1, h2⟩ := hr 0 []
  unfold tsSound at ht
  rw [if_neg ha] at ht
  have hT : toksS (lxX m) l = ⟨T', 0, 0⟩ := by
    unfold toksS
    rw [if_neg (by omega)]
    exact h1
  unfold unaryS
  rw [hA, hT]
  have hon : On (newP ⟨T', 0, 0⟩ l.length) (utoks t) := ⟨rfl, Nat.zero_le _, h2⟩
  show readT _ = _
  obtain ⟨any, no, L⟩ := t
  simp only [Bool.not_eq_true] at ha ht
  subst ha
  cases no with
  | true =>
    have h : On (newP ⟨T', 0, 0⟩ l.length) (nm notB :: sg [40] :: (ltoks L ++ [sg [41]])) := hon
    have hi : (newP ⟨T', 0, 0⟩ l.length).isS notB = true := by rw [h.is_]; rfl
    obtain ⟨n1, n2⟩ := h.adv.need
    obtain ⟨g1, g2⟩ := tests_on ht.1 ht.2.1 ht.2.2 (fun q hq => by rw [hq.is_]; rfl) n2
    obtain ⟨k1, k2⟩ := g2.need
    unfold readT
    rw [if_pos hi, n1, g1, k1]
    exact out_on k2
  | false =>
    have h : On (newP ⟨T', 0, 0⟩ l.length) (ltoks L ++ []) := by rw [List.append_nil]; exact hon
    obtain ⟨g1, g2⟩ := tests_on ht.1 ht.2.1 ht.2.2 (fun q hq => hq.is_nil _) h
    have hi : (newP ⟨T', 0, 0⟩ l.length).isS notB = false := by
      cases L with
      | nil => have := ht.1; simp at this
      | cons t r =>
        rw [ltoks_cons, List.append_assoc] at h
        exact head_not (ht.2.2 t (List.mem_cons_self ..)) h
    unfold readT
    rw [hi]
    simp only [Bool.false_eq_true, if_false]
    rw [g1]
    exact out_on g2
theorem aw_read (m : Int) (w : World) (hw : OKW m w) : unaryS (lxX m) aw1 = (aw9, 0, 0) := by
  refine read_of aw9_ts (by decide) ?_ (by decide) (by decide)
  have h : Reads (lxX m) (notB ++ 40 :: 32 :: (ltxt aw9.l ++ 32 :: 41 :: [])) (nm notB :: sg [40] :: (ltoks aw9.l ++ [sg [41]])) := by
    refine reads_tok (o := notB) (t := nm notB) rfl rfl (stop_of rfl (by decide) (by decide)) (reads_open (reads_blank ?_))
    exact reads_list m w hw aw9.l aw9_vs (stop32 _) (reads_blank (reads_close (reads_nil _)))
  rw [ltxt_aw9] at h
  exact h
set_option maxHeartbeats 8000000 in
set_option maxRecDepth 100000 in
theorem aw_walk (w : World)
    (KP : Hid (∀ W, Below w.heap.size w W → Calls Tryz.prog 27 #[.string ⟨#[110, 111, 116, 40, 32, 60, 32, 53, 44, 32, 91, 49, 46, 46, 50, 41, 44, 32, 45, 51, 44, 32, 34, 120, 34, 32, 41]⟩] W fun e w' => (∃ A c, e = .returned (.tuple #[.agg #[.bool false, .bool true, .slice A 4 c], .int .i64 0, .int .i64 0]) ∧ RM clT 13 w' A aw9.l) ∧ Below W.heap.size W w'))
    (KX : Hid (∀ A c W, Below w.heap.size w W → RM clT 13 W A aw9.l → Calls Tryz.prog 24 #[.agg #[.bool false, .bool true, .slice A 4 c]] W fun e w' => e = .returned (.tuple #[.string ⟨#[110, 111, 116, 40, 60, 32, 53, 44, 32, 91, 49, 46, 46, 50, 41, 44, 32, 45, 51, 44, 32, 34, 120, 34, 41]⟩, .int .i64 0]) ∧ Below W.heap.size W w')) :
    Calls Tryz.prog 25 #[] w fun e w' => e = .returned (.bool true) ∧ Below w.heap.size w w' := by
  go_enter Tryz.func25, Tryz.ntmps25
  go_wp2_with fail
  refine (KP.out _ (by (repeat' (first | (with_reducible exact Below.refl _ _) | (with_reducible assumption) | (with_reducible refine balloc ?_ _) | (with_reducible refine Below.drew ?_) | (with_reducible refine bset ?_ ?_ _) | (with_reducible refine bstep ?_ (by with_reducible assumption)) | (with_reducible refine bturn ?_ (by with_reducible assumption) ?_) | go_size)))).mono ?_
  rintro e w1 ⟨⟨A, c, rfl, hA⟩, hb1⟩
  have HA := Lib.hid hA
  have k1 : Blk (w1.alloc (.cells #[.bool false, .bool true, .slice A 4 c] 47)) w1.heap.size 47 #[.bool false, .bool true, .slice A 4 c] := Blk.new _ _ _
  clear hA
  go_wp2_with fail
  refine (KX.out A c _ (by (repeat' (first | (with_reducible exact Below.refl _ _) | (with_reducible assumption) | (with_reducible refine balloc ?_ _) | (with_reducible refine Below.drew ?_) | (with_reducible refine bset ?_ ?_ _) | (with_reducible refine bstep ?_ (by with_reducible assumption)) | (with_reducible refine bturn ?_ (by with_reducible assumption) ?_) | go_size))) (HA.out.step (by (repeat' (first | (with_reducible exact Below.refl _ _) | (with_reducible assumption) | (with_reducible refine balloc ?_ _) | (with_reducible refine Below.drew ?_) | (with_reducible refine bset ?_ ?_ _) | (with_reducible refine bstep ?_ (by with_reducible assumption)) | (with_reducible refine bturn ?_ (by with_reducible assumption) ?_) | go_size))))).mono ?_
  rintro e w2 ⟨rfl, hb2⟩
  have k2 := k1.step hb2
  have hb02 : Below w.heap.size w w2 := by (repeat' (first | (with_reducible exact Below.refl _ _) | (with_reducible assumption) | (with_reducible refine balloc ?_ _) | (with_reducible refine Below.drew ?_) | (with_reducible refine bset ?_ ?_ _) | (with_reducible refine bstep ?_ (by with_reducible assumption)) | (with_reducible refine bturn ?_ (by with_reducible assumption) ?_) | go_size))
  clear k1 hb1 hb2
  have hlu := k2.lt; have hllu := lts hlu; have qu0 := k2.cell 0; have qu1 := k2.cell 1; have qu2 := k2.cell 2; simp at qu0 qu1 qu2; have zu0 := k2.frozen 0; have zu1 := k2.frozen 1; have zu2 := k2.frozen 2; have Hk2 := Lib.hid k2; clear k2
  go_wp2_with fail
  go_returns
  exact ⟨by first | rfl | simp, by (repeat' (first | (with_reducible exact Below.refl _ _) | (with_reducible assumption) | (with_reducible refine balloc ?_ _) | (with_reducible refine Below.drew ?_) | (with_reducible refine bset ?_ ?_ _) | (with_reducible refine bstep ?_ (by with_reducible assumption)) | (with_reducible refine bturn ?_ (by with_reducible assumption) ?_) | go_size))⟩
theorem awake9 (hTA : Hid TestAny) (m : Int) (w : World) (hw : OKW m w) :
    Calls Tryz.prog 25 #[] w fun e w' => e = .returned (.bool true) ∧ Below w.heap.size w w' := by
  refine aw_walk w (Lib.hid fun W hb => ?_) (Lib.hid fun A c W hb hA => ?_)
  · have h := uparse_any hTA m (bs aw1) (by decide) W (hw.step hb)
    have e : (bs aw1).data.toList = aw1 := rfl
    rw [e, aw_read m W (hw.step hb)] at h
    refine h.mono ?_
    rintro e w' ⟨⟨A, c, rfl, hM, _⟩, hb'⟩
    exact ⟨⟨A, c, rfl, hM⟩, hb'⟩
  · have h := utext_any aw9 A c m W (hw.step hb) hA (fun u hu => tok_tst (aw9_vs u hu))
    have e : utx aw9 = (aw2, 0) := by unfold utx; rw [if_pos aw9_ts, aw9_txt]
    rw [e] at h
    exact h

set_option maxHeartbeats 8000000 in
set_option maxRecDepth 100000 in
theorem ub_bad (any no : Bool) (A : Option Addr) (n c : Nat) (w : World) (HW : Hid (∀ W, Below w.heap.size w W → Calls Tryz.prog 25 #[] W fun e w' => e = .returned (.bool true) ∧ Below W.heap.size W w'))
    (HT : Hid (∀ W, Below w.heap.size w W → Calls Tryz.prog 24 #[.agg #[.bool any, .bool no, .slice A n c]] W fun e w' => e = .returned (.tuple #[.string ⟨#[]⟩, .int .i64 2]) ∧ Below W.heap.size W w'))
    (HS : Hid (∀ W, Below w.heap.size w W → Calls Tryz.prog 26 #[.agg #[.bool any, .bool no, .slice A n c]] W fun e w' => e = .returned (.bool false) ∧ Below W.heap.size W w')) :
    Calls Tryz.prog 5 #[.agg #[.bool any, .bool no, .slice A n c]] w fun e w' => e = .returned (.bool true) ∧ Below w.heap.size w w' := by
  have k0 : Blk (w.alloc (.cells #[.bool any, .bool no, .slice A n c] 47)) w.heap.size 47 #[.bool any, .bool no, .slice A n c] := Blk.new _ _ _
  go_enter Tryz.func5, Tryz.ntmps5
  go_wp2_with fail
  refine (HT.out _ (by (repeat' (first | (with_reducible exact Below.refl _ _) | (with_reducible assumption) | (with_reducible refine balloc ?_ _) | (with_reducible refine Below.drew ?_) | (with_reducible refine bset ?_ ?_ _) | (with_reducible refine bstep ?_ (by with_reducible assumption)) | (with_reducible refine bturn ?_ (by with_reducible assumption) ?_) | go_size)))).mono ?_
  rintro e w1 ⟨rfl, hb1⟩
  go_wp2_with fail
  refine (HW.out _ (by (repeat' (first | (with_reducible exact Below.refl _ _) | (with_reducible assumption) | (with_reducible refine balloc ?_ _) | (with_reducible refine Below.drew ?_) | (with_reducible refine bset ?_ ?_ _) | (with_reducible refine bstep ?_ (by with_reducible assumption)) | (with_reducible refine bturn ?_ (by with_reducible assumption) ?_) | go_size)))).mono ?_
  rintro e w2 ⟨rfl, hb2⟩
  go_wp2_with fail
  refine (HW.out _ (by (repeat' (first | (with_reducible exact Below.refl _ _) | (with_reducible assumption) | (with_reducible refine balloc ?_ _) | (with_reducible refine Below.drew ?_) | (with_reducible refine bset ?_ ?_ _) | (with_reducible refine bstep ?_ (by with_reducible assumption)) | (with_reducible refine bturn ?_ (by with_reducible assumption) ?_) | go_size)))).mono ?_
  rintro e w3 ⟨rfl, hb3⟩
  have k3 := ((k0.step hb1).step hb2).step hb3
  have hb03 : Below w.heap.size w w3 := by (repeat' (first | (with_reducible exact Below.refl _ _) | (with_reducible assumption) | (with_reducible refine balloc ?_ _) | (with_reducible refine Below.drew ?_) | (with_reducible refine bset ?_ ?_ _) | (with_reducible refine bstep ?_ (by with_reducible assumption)) | (with_reducible refine bturn ?_ (by with_reducible assumption) ?_) | go_size))
  clear k0 hb1 hb2 hb3
  have hlu := k3.lt; have hllu := lts hlu; have qu0 := k3.cell 0; have qu1 := k3.cell 1; have qu2 := k3.cell 2; simp at qu0 qu1 qu2; have zu0 := k3.frozen 0; have zu1 := k3.frozen 1; have zu2 := k3.frozen 2; have Hk3 := Lib.hid k3; clear k3
  go_wp2_with fail
  refine (HS.out _ (by (repeat' (first | (with_reducible exact Below.refl _ _) | (with_reducible assumption) | (with_reducible refine balloc ?_ _) | (with_reducible refine Below.drew ?_) | (with_reducible refine bset ?_ ?_ _) | (with_reducible refine bstep ?_ (by with_reducible assumption)) | (with_reducible refine bturn ?_ (by with_reducible assumption) ?_) | go_size)))).mono ?_
  rintro e w4 ⟨rfl, hb4⟩
  go_wp2_with fail
  go_returns
  exact ⟨by first | rfl | simp, by (repeat' (first | (with_reducible exact Below.refl _ _) | (with_reducible assumption) | (with_reducible refine balloc ?_ _) | (with_reducible refine Below.drew ?_) | (with_reducible refine bset ?_ ?_ _) | (with_reducible refine bstep ?_ (by with_reducible assumption)) | (with_reducible refine bturn ?_ (by with_reducible assumption) ?_) | go_size))⟩
set_option maxHeartbeats 8000000 in
set_option maxRecDepth 100000 in
theorem ub_good (any no : Bool) (A : Option Addr) (L : List Tst) (c : Nat) (S : ByteArray) (w : World) (HW : Hid (∀ W, Below w.heap.size w W → Calls Tryz.prog 25 #[] W fun e w' => e = .returned (.bool true) ∧ Below W.heap.size W w'))
    (HT : Hid (∀ W, Below w.heap.size w W → Calls Tryz.prog 24 #[.agg #[.bool any, .bool no, .slice A L.length c]] W fun e w' => e = .returned (.tuple #[.string S, .int .i64 0]) ∧ Below W.heap.size W w'))
    (HP : Hid (∀ W, Below w.heap.size w W → Calls Tryz.prog 27 #[.string S] W fun e w' => (∃ B d, e = .returned (.tuple #[.agg #[.bool any, .bool no, .slice B L.length d], .int .i64 0, .int .i64 0]) ∧ RM clT 13 w' B L) ∧ Below W.heap.size W w'))
    (HS : Hid (∀ B d W, Below w.heap.size w W → RM clT 13 W B L → Calls Tryz.prog 28 #[.agg #[.bool any, .bool no, .slice A L.length c], .agg #[.bool any, .bool no, .slice B L.length d]] W fun e w' => e = .returned (.bool true) ∧ Below W.heap.size W w')) :
    Calls Tryz.prog 5 #[.agg #[.bool any, .bool no, .slice A L.length c]] w fun e w' => e = .returned (.bool true) ∧ Below w.heap.size w w' := by
  have k0 : Blk (w.alloc (.cells #[.bool any, .bool no, .slice A L.length c] 47)) w.heap.size 47 #[.bool any, .bool no, .slice A L.length c] := Blk.new _ _ _
  go_enter Tryz.func5, Tryz.ntmps5
  go_wp2_with fail
  refine (HT.out _ (by (repeat' (first | (with_reducible exact Below.refl _ _) | (with_reducible assumption) | (with_reducible refine balloc ?_ _) | (with_reducible refine Below.drew ?_) | (with_reducible refine bset ?_ ?_ _) | (with_reducible refine bstep ?_ (by with_reducible assumption)) | (with_reducible refine bturn ?_ (by with_reducible assumption) ?_) | go_size)))).mono ?_
  rintro e w1 ⟨rfl, hb1⟩
  go_wp2_with fail
  refine (HW.out _ (by (repeat' (first | (with_reducible exact Below.refl _ _) | (with_reducible assumption) | (with_reducible refine balloc ?_ _) | (with_reducible refine Below.drew ?_) | (with_reducible refine bset ?_ ?_ _) | (with_reducible refine bstep ?_ (by with_reducible assumption)) | (with_reducible refine bturn ?_ (by with_reducible assumption) ?_) | go_size)))).mono ?_
  rintro e w2 ⟨rfl, hb2⟩
  have k2 := (k0.step hb1).step hb2
  have hb02 : Below w.heap.size w w2 := by (repeat' (first | (with_reducible exact Below.refl _ _) | (with_reducible assumption) | (with_reducible refine balloc ?_ _) | (with_reducible refine Below.drew ?_) | (with_reducible refine bset ?_ ?_ _) | (with_reducible refine bstep ?_ (by with_reducible assumption)) | (with_reducible refine bturn ?_ (by with_reducible assumption) ?_) | go_size))
  clear k0 hb1 hb2
  go_wp2_with fail
  refine (HP.out _ (by (repeat' (first | (with_reducible exact Below.refl _ _) | (with_reducible assumption) | (with_reducible refine balloc ?_ _) | (with_reducible refine Below.drew ?_) | (with_reducible refine bset ?_ ?_ _) | (with_reducible refine bstep ?_ (by with_reducible assumption)) | (with_reducible refine bturn ?_ (by with_reducible assumption) ?_) | go_size)))).mono ?_
  rintro e w3 ⟨⟨B, d, rfl, hB⟩, hb3⟩
  have k3 := k2.step hb3
  have hb03 : Below w.heap.size w w3 := by (repeat' (first | (with_reducible exact Below.refl _ _) | (with_reducible assumption) | (with_reducible refine balloc ?_ _) | (with_reducible refine Below.drew ?_) | (with_reducible refine bset ?_ ?_ _) | (with_reducible refine bstep ?_ (by with_reducible assumption)) | (with_reducible refine bturn ?_ (by with_reducible assumption) ?_) | go_size))
  have HB := Lib.hid hB
  have hz3 := hb03.size
  have hl3 := k3.lt
  clear hB k2 hb02 hb3
  have kt : Blk (w3.alloc (.cells #[.bool any, .bool no, .slice B L.length d] 47)) w3.heap.size 47 #[.bool any, .bool no, .slice B L.length d] := Blk.new _ _ _
  have hlu := k3.lt; have hllu := lts hlu; have qu0 := k3.cell 0; have qu1 := k3.cell 1; have qu2 := k3.cell 2; simp at qu0 qu1 qu2; have zu0 := k3.frozen 0; have zu1 := k3.frozen 1; have zu2 := k3.frozen 2; have Hk3 := Lib.hid k3; clear k3
  go_wp2_with fail
  refine (HS.out B d _ (by (repeat' (first | (with_reducible exact Below.refl _ _) | (with_reducible assumption) | (with_reducible refine balloc ?_ _) | (with_reducible refine Below.drew ?_) | (with_reducible refine bset ?_ ?_ _) | (with_reducible refine bstep ?_ (by with_reducible assumption)) | (with_reducible refine bturn ?_ (by with_reducible assumption) ?_) | go_size))) (HB.out.step (by (repeat' (first | (with_reducible exact Below.refl _ _) | (with_reducible assumption) | (with_reducible refine balloc ?_ _) | (with_reducible refine Below.drew ?_) | (with_reducible refine bset ?_ ?_ _) | (with_reducible refine bstep ?_ (by with_reducible assumption)) | (with_reducible refine bturn ?_ (by with_reducible assumption) ?_) | go_size))))).mono ?_
  rintro e w4 ⟨rfl, hb4⟩
  go_wp2_with fail
  go_returns
  exact ⟨by first | rfl | simp, by (repeat' (first | (with_reducible exact Below.refl _ _) | (with_reducible assumption) | (with_reducible refine balloc ?_ _) | (with_reducible refine Below.drew ?_) | (with_reducible refine bset ?_ ?_ _) | (with_reducible refine bstep ?_ (by with_reducible assumption)) | (with_reducible refine bturn ?_ (by with_reducible assumption) ?_) | go_size))⟩
open Classical in
theorem uback_any (hTA : Hid TestAny) (t : Tsts) (A : Option Addr) (c : Nat) (m : Int) (w : World) (hw : OKW m w) (hM : RM clT 13 w A t.l) (hok : ∀ u ∈ t.l, TOk u) :
    Calls Tryz.prog 5 #[.agg #[.bool t.any, .bool t.no, .slice A t.l.length c]] w fun e w' => e = .returned (.bool true) ∧ Below w.heap.size w w' := by
  have HW := Lib.hid fun W (h : Below w.heap.size w W) => awake9 hTA m W (hw.step h)
  have HT := fun W (h : Below w.heap.size w W) => utext_any t A c m W (hw.step h) (hM.step h) hok
  by_cases hs : tsSound t
  · have e : utx t = (utxt t, 0) := by unfold utx; rw [if_pos hs]
    rw [e] at HT
    have hl := utxt_len hs
    have hl8 : t.l.length ≤ 1000 := by
      have h := hs
      unfold tsSound at h
      split at h
      · rw [h.2]; simp
      · omega
    refine ub_good t.any t.no A t.l c (bs (utxt t)) w HW (Lib.hid HT) (Lib.hid fun W hb => ?_) (Lib.hid fun B d W hb hB => same9_any t.any t.no A B t.l c d hl8 W (hM.step hb) hB)
    have h := uparse_any hTA m (bs (utxt t)) (by rw [bs_size]; omega) W (hw.step hb)
    have e2 : (bs (utxt t)).data.toList = utxt t := rfl
    rw [e2, back_plain m W (hw.step hb) t hs] at h
    refine h.mono ?_
    rintro e w' ⟨⟨B, d, rfl, hB, _⟩, hb'⟩
    exact ⟨⟨B, d, rfl, hB⟩, hb'⟩
  · have e : utx t = ([], 2) := by unfold utx; rw [if_neg hs]
    rw [e] at HT
    refine ub_bad t.any t.no A t.l.length c w HW (Lib.hid HT) (Lib.hid fun W hb => ?_)
    have h := rs9 t A c W (hM.step hb) hok
    rw [decide_eq_false hs] at h
    exact h
end Go.Proofs.YtkkeplmaphcblaaGreatDoor

namespace Go.Proofs.YtkkeplmaphcblaaGreatDoor
open Go.RowKit Go.Shelf

set_option maxHeartbeats 8000000 in
set_option maxRecDepth 100000 in
theorem uo_bad (s : ByteArray) (any no : Bool) (n : Nat) (a e : Int) (he : ¬ e = 0) (ha0 : 0 ≤ a) (ha1 : a ≤ (s.size : Int)) (w : World)
    (HW : Hid (∀ W, Below w.heap.size w W → Calls Tryz.prog 25 #[] W fun e w' => e = .returned (.bool true) ∧ Below W.heap.size W w'))
    (HP : Hid (∀ W, Below w.heap.size w W → Calls Tryz.prog 27 #[.string s] W fun x w' => (∃ A c, x = .returned (.tuple #[.agg #[.bool any, .bool no, .slice A n c], .int .i64 a, .int .i64 e])) ∧ Below W.heap.size W w')) :
    Calls Tryz.prog 6 #[.string s] w fun e w' => e = .returned (.bool true) ∧ Below w.heap.size w w' := by
  have heb : (e != 0) = true := by simpa using he
  go_enter Tryz.func6, Tryz.ntmps6
  go_wp2_with fail
  refine (HP.out _ (by (repeat' (first | (with_reducible exact Below.refl _ _) | (with_reducible assumption) | (with_reducible refine balloc ?_ _) | (with_reducible refine Below.drew ?_) | (with_reducible refine bset ?_ ?_ _) | (with_reducible refine bstep ?_ (by with_reducible assumption)) | (with_reducible refine bturn ?_ (by with_reducible assumption) ?_) | go_size)))).mono ?_
  rintro x w1 ⟨⟨A, c, rfl⟩, hb1⟩
  go_wp2_with fail
  refine (HW.out _ (by (repeat' (first | (with_reducible exact Below.refl _ _) | (with_reducible assumption) | (with_reducible refine balloc ?_ _) | (with_reducible refine Below.drew ?_) | (with_reducible refine bset ?_ ?_ _) | (with_reducible refine bstep ?_ (by with_reducible assumption)) | (with_reducible refine bturn ?_ (by with_reducible assumption) ?_) | go_size)))).mono ?_
  rintro _ w2 ⟨rfl, hb2⟩
  go_wp2_with fail
  refine (HW.out _ (by (repeat' (first | (with_reducible exact Below.refl _ _) | (with_reducible assumption) | (with_reducible refine balloc ?_ _) | (with_reducible refine Below.drew ?_) | (with_reducible refine bset ?_ ?_ _) | (with_reducible refine bstep ?_ (by with_reducible assumption)) | (with_reducible refine bturn ?_ (by with_reducible assumption) ?_) | go_size)))).mono ?_
  rintro _ w3 ⟨rfl, hb3⟩
  go_wp2_with fail
  go_returns
  exact ⟨by first | rfl | simp, by (repeat' (first | (with_reducible exact Below.refl _ _) | (with_reducible assumption) | (with_reducible refine balloc ?_ _) | (with_reducible refine Below.drew ?_) | (with_reducible refine bset ?_ ?_ _) | (with_reducible refine bstep ?_ (by with_reducible assumption)) | (with_reducible refine bturn ?_ (by with_reducible assumption) ?_) | go_size))⟩
set_option maxHeartbeats 8000000 in
set_option maxRecDepth 100000 in
theorem uo_good (s : ByteArray) (any no : Bool) (L : List Tst) (S : ByteArray) (w : World)
    (HW : Hid (∀ W, Below w.heap.size w W → Calls Tryz.prog 25 #[] W fun e w' => e = .returned (.bool true) ∧ Below W.heap.size W w'))
    (HP : Hid (∀ W, Below w.heap.size w W → Calls Tryz.prog 27 #[.string s] W fun x w' => (∃ A c, x = .returned (.tuple #[.agg #[.bool any, .bool no, .slice A L.length c], .int .i64 0, .int .i64 0]) ∧ RM clT 13 w' A L) ∧ Below W.heap.size W w'))
    (HT : Hid (∀ A c W, Below w.heap.size w W → RM clT 13 W A L → Calls Tryz.prog 24 #[.agg #[.bool any, .bool no, .slice A L.length c]] W fun e w' => e = .returned (.tuple #[.string S, .int .i64 0]) ∧ Below W.heap.size W w'))
    (HU : Hid (∀ A c W, Below w.heap.size w W → RM clT 13 W A L → Calls Tryz.prog 29 #[.agg #[.bool any, .bool no, .slice A L.length c]] W fun e w' => e = .returned (.bool true) ∧ Below W.heap.size W w'))
    (HQ : Hid (∀ W, Below w.heap.size w W → Calls Tryz.prog 27 #[.string S] W fun x w' => (∃ A c, x = .returned (.tuple #[.agg #[.bool any, .bool no, .slice A L.length c], .int .i64 0, .int .i64 0]) ∧ RM clT 13 w' A L) ∧ Below W.heap.size W w'))
    (HS : Hid (∀ A c B d W, RM clT 13 W A L → RM clT 13 W B L → Calls Tryz.prog 28 #[.agg #[.bool any, .bool no, .slice A L.length c], .agg #[.bool any, .bool no, .slice B L.length d]] W fun e w' => e = .returned (.bool true) ∧ Below W.heap.size W w')) :
    Calls Tryz.prog 6 #[.string s] w fun e w' => e = .returned (.bool true) ∧ Below w.heap.size w w' := by
  go_enter Tryz.func6, Tryz.ntmps6
  go_wp2_with fail
  refine (HP.out _ (by (repeat' (first | (with_reducible exact Below.refl _ _) | (with_reducible assumption) | (with_reducible refine balloc ?_ _) | (with_reducible refine Below.drew ?_) | (with_reducible refine bset ?_ ?_ _) | (with_reducible refine bstep ?_ (by with_reducible assumption)) | (with_reducible refine bturn ?_ (by with_reducible assumption) ?_) | go_size)))).mono ?_
  rintro x w1 ⟨⟨A, c, rfl, hA⟩, hb1⟩
  have HA := Lib.hid hA
  have hz1 := hb1.size
  have k1 : Blk (w1.alloc (.cells #[.bool any, .bool no, .slice A L.length c] 47)) w1.heap.size 47 #[.bool any, .bool no, .slice A L.length c] := Blk.new _ _ _
  clear hA
  go_wp2_with fail
  refine (HW.out _ (by (repeat' (first | (with_reducible exact Below.refl _ _) | (with_reducible assumption) | (with_reducible refine balloc ?_ _) | (with_reducible refine Below.drew ?_) | (with_reducible refine bset ?_ ?_ _) | (with_reducible refine bstep ?_ (by with_reducible assumption)) | (with_reducible refine bturn ?_ (by with_reducible assumption) ?_) | go_size)))).mono ?_
  rintro _ w2 ⟨rfl, hb2⟩
  have k2 := k1.step hb2
  have HA2 : Hid (RM clT 13 w2 A L) := Lib.hid ((HA.out.step (by (repeat' (first | (with_reducible exact Below.refl _ _) | (with_reducible assumption) | (with_reducible refine balloc ?_ _) | (with_reducible refine Below.drew ?_) | (with_reducible refine bset ?_ ?_ _) | (with_reducible refine bstep ?_ (by with_reducible assumption)) | (with_reducible refine bturn ?_ (by with_reducible assumption) ?_) | go_size)))).step hb2)
  have hb02 : Below w.heap.size w w2 := by (repeat' (first | (with_reducible exact Below.refl _ _) | (with_reducible assumption) | (with_reducible refine balloc ?_ _) | (with_reducible refine Below.drew ?_) | (with_reducible refine bset ?_ ?_ _) | (with_reducible refine bstep ?_ (by with_reducible assumption)) | (with_reducible refine bturn ?_ (by with_reducible assumption) ?_) | go_size))
  have K2 := Lib.hid k2
  clear k1 hb1 hb2
  go_wp2_with (refine wpList_load_blk k2 rfl _ _ (by rfl) (by rfl) (by (repeat (first | (with_reducible exact k2) | (with_reducible refine Blk.alloc ?_ _) | (with_reducible refine Blk.drew ?_) | (with_reducible refine Blk.far ?_ (by first | (simp; done) | (simp; omega)) _) | (with_reducible refine Blk.turn ?_ (by with_reducible assumption) (by omega))))) _ Tryz.underlying47 rfl (by kernel_rfl) ?_)
  refine (HT.out A c _ (by (repeat' (first | (with_reducible exact Below.refl _ _) | (with_reducible assumption) | (with_reducible refine balloc ?_ _) | (with_reducible refine Below.drew ?_) | (with_reducible refine bset ?_ ?_ _) | (with_reducible refine bstep ?_ (by with_reducible assumption)) | (with_reducible refine bturn ?_ (by with_reducible assumption) ?_) | go_size))) HA2.out).mono ?_
  rintro _ w3 ⟨rfl, hb3⟩
  have k3 := K2.out.step hb3
  have HA3 : Hid (RM clT 13 w3 A L) := Lib.hid (HA2.out.step hb3)
  have hb03 : Below w.heap.size w w3 := by (repeat' (first | (with_reducible exact Below.refl _ _) | (with_reducible assumption) | (with_reducible refine balloc ?_ _) | (with_reducible refine Below.drew ?_) | (with_reducible refine bset ?_ ?_ _) | (with_reducible refine bstep ?_ (by with_reducible assumption)) | (with_reducible refine bturn ?_ (by with_reducible assumption) ?_) | go_size))
  have K3 := Lib.hid k3
  clear K2 k2 HA2 hb02 hb3
  go_wp2_with fail
  refine (HQ.out _ (by (repeat' (first | (with_reducible exact Below.refl _ _) | (with_reducible assumption) | (with_reducible refine balloc ?_ _) | (with_reducible refine Below.drew ?_) | (with_reducible refine bset ?_ ?_ _) | (with_reducible refine bstep ?_ (by with_reducible assumption)) | (with_reducible refine bturn ?_ (by with_reducible assumption) ?_) | go_size)))).mono ?_
  rintro x w4 ⟨⟨B, d, rfl, hB⟩, hb4⟩
  have HA4 : Hid (RM clT 13 w4 A L) := Lib.hid (HA3.out.step hb4)
  have HB4 : Hid (RM clT 13 w4 B L) := Lib.hid hB
  have hb04 : Below w.heap.size w w4 := by (repeat' (first | (with_reducible exact Below.refl _ _) | (with_reducible assumption) | (with_reducible refine balloc ?_ _) | (with_reducible refine Below.drew ?_) | (with_reducible refine bset ?_ ?_ _) | (with_reducible refine bstep ?_ (by with_reducible assumption)) | (with_reducible refine bturn ?_ (by with_reducible assumption) ?_) | go_size))
  have k4 := K3.out.step hb4
  have kt : Blk (w4.alloc (.cells #[.bool any, .bool no, .slice B L.length d] 47)) w4.heap.size 47 #[.bool any, .bool no, .slice B L.length d] := Blk.new _ _ _
  have hl4 := k4.lt
  have hz4 := hb04.size
  have K4 := Lib.hid k4
  clear k3 K3 HA3 hb03 hb4 hB
  have hlu := k4.lt; have hllu := lts hlu; have qu0 := k4.cell 0; have qu1 := k4.cell 1; have qu2 := k4.cell 2; simp at qu0 qu1 qu2; have zu0 := k4.frozen 0; have zu1 := k4.frozen 1; have zu2 := k4.frozen 2; have Hk4 := Lib.hid k4; clear k4
  go_wp2_with fail
  refine (HU.out A c _ (by (repeat' (first | (with_reducible exact Below.refl _ _) | (with_reducible assumption) | (with_reducible refine balloc ?_ _) | (with_reducible refine Below.drew ?_) | (with_reducible refine bset ?_ ?_ _) | (with_reducible refine bstep ?_ (by with_reducible assumption)) | (with_reducible refine bturn ?_ (by with_reducible assumption) ?_) | go_size))) (HA4.out.step (by (repeat' (first | (with_reducible exact Below.refl _ _) | (with_reducible assumption) | (with_reducible refine balloc ?_ _) | (with_reducible refine Below.drew ?_) | (with_reducible refine bset ?_ ?_ _) | (with_reducible refine bstep ?_ (by with_reducible assumption)) | (with_reducible refine bturn ?_ (by with_reducible assumption) ?_) | go_size))))).mono ?_
  rintro _ w5 ⟨rfl, hb5⟩
  have k5 := (K4.out.alloc _).step hb5
  have kt5 := kt.step hb5
  have HA5 : Hid (RM clT 13 w5 A L) := Lib.hid ((HA4.out.step (by (repeat' (first | (with_reducible exact Below.refl _ _) | (with_reducible assumption) | (with_reducible refine balloc ?_ _) | (with_reducible refine Below.drew ?_) | (with_reducible refine bset ?_ ?_ _) | (with_reducible refine bstep ?_ (by with_reducible assumption)) | (with_reducible refine bturn ?_ (by with_reducible assumption) ?_) | go_size)))).step hb5)
  have HB5 : Hid (RM clT 13 w5 B L) := Lib.hid ((HB4.out.step (by (repeat' (first | (with_reducible exact Below.refl _ _) | (with_reducible assumption) | (with_reducible refine balloc ?_ _) | (with_reducible refine Below.drew ?_) | (with_reducible refine bset ?_ ?_ _) | (with_reducible refine bstep ?_ (by with_reducible assumption)) | (with_reducible refine bturn ?_ (by with_reducible assumption) ?_) | go_size)))).step hb5)
  have hb05 : Below w.heap.size w w5 := by (repeat' (first | (with_reducible exact Below.refl _ _) | (with_reducible assumption) | (with_reducible refine balloc ?_ _) | (with_reducible refine Below.drew ?_) | (with_reducible refine bset ?_ ?_ _) | (with_reducible refine bstep ?_ (by with_reducible assumption)) | (with_reducible refine bturn ?_ (by with_reducible assumption) ?_) | go_size))
  clear kt K4 HA4 HB4 hb04 hb5 qu0 qu1 qu2 zu0 zu1 zu2 hlu hllu
  have hlu := k5.lt; have hllu := lts hlu; have qu0 := k5.cell 0; have qu1 := k5.cell 1; have qu2 := k5.cell 2; simp at qu0 qu1 qu2; have zu0 := k5.frozen 0; have zu1 := k5.frozen 1; have zu2 := k5.frozen 2; have Hk5 := Lib.hid k5; clear k5
  have hlv := kt5.lt; have hllv := lts hlv; have qv0 := kt5.cell 0; have qv1 := kt5.cell 1; have qv2 := kt5.cell 2; simp at qv0 qv1 qv2; have zv0 := kt5.frozen 0; have zv1 := kt5.frozen 1; have zv2 := kt5.frozen 2; have Hkt5 := Lib.hid kt5; clear kt5
  go_wp2_with fail
  refine (HS.out A c B d _ HA5.out HB5.out).mono ?_
  rintro _ w6 ⟨rfl, hb6⟩
  go_wp2_with fail
  go_returns
  exact ⟨by first | rfl | simp, by (repeat' (first | (with_reducible exact Below.refl _ _) | (with_reducible assumption) | (with_reducible refine balloc ?_ _) | (with_reducible refine Below.drew ?_) | (with_reducible refine bset ?_ ?_ _) | (with_reducible refine bstep ?_ (by with_reducible assumption)) | (with_reducible refine bturn ?_ (by with_reducible assumption) ?_) | go_size))⟩
theorem uonce_any (hTA : Hid TestAny) (s : ByteArray) (hs : s.size ≤ 9223372036854775807) (m : Int) (w : World) (hw : OKW m w) :
    Calls Tryz.prog 6 #[.string s] w fun e w' => e = .returned (.bool true) ∧ Below w.heap.size w w' := by
  have HW := Lib.hid fun W (h : Below w.heap.size w W) => awake9 hTA m W (hw.step h)
  have HP := fun W (h : Below w.heap.size w W) => uparse_any hTA m s hs W (hw.step h)
  obtain ⟨h1, h2, h3⟩ := once_plain m w hw s.data.toList
  have hsz : (s.data.toList.length : Int) = (s.size : Int) := by simp
  obtain ⟨⟨t, a, e⟩, hr⟩ : ∃ r, unaryS (lxX m) s.data.toList = r := ⟨_, rfl⟩
  rw [hr] at h1 h2 h3 HP
  simp only at h1 h2 h3
  by_cases he : e = 0
  · subst he
    have hts := h1 rfl
    have e2 : utx t = (utxt t, 0) := by unfold utx; rw [if_pos hts]
    have hl := utxt_len hts
    have hl8 : t.l.length ≤ 1000 ∧ ∀ u ∈ t.l, TOk u := by
      have h := hts
      unfold tsSound at h
      split at h
      · rw [h.2]; simp
      · exact ⟨by omega, fun u hu => tok_tst (h.2.2 u hu)⟩
    have ha : a = 0 := by
      unfold unaryS at hr
      split at hr
      · injection hr with _ hr
        injection hr with hr _
        exact hr.symm
      · unfold readT at hr
        split at hr
        · obtain ⟨_, h⟩ := out_ok (show (outT _ _ _).2.2 = 0 by rw [hr])
          rw [h] at hr
          injection hr with _ hr
          injection hr with hr _
          exact hr.symm
        · obtain ⟨_, h⟩ := out_ok (show (outT _ _ _).2.2 = 0 by rw [hr])
          rw [h] at hr
          injection hr with _ hr
          injection hr with hr _
          exact hr.symm
    subst ha
    refine uo_good s t.any t.no t.l (bs (utxt t)) w HW (Lib.hid fun W hb => ?_) (Lib.hid fun A c W hb hA => ?_) (Lib.hid fun A c W hb hA => ?_) (Lib.hid fun W hb => ?_) (Lib.hid fun A c B d W hA hB => same9_any t.any t.no A B t.l c d hl8.1 W hA hB)
    · refine (HP W hb).mono ?_
      rintro e w' ⟨⟨A, c, rfl, hM, _⟩, hb'⟩
      exact ⟨⟨A, c, rfl, hM⟩, hb'⟩
    · have h := utext_any t A c m W (hw.step hb) hA hl8.2
      rw [e2] at h
      exact h
    · have h := usound_any t A c m W (hw.step hb) hA hl8.2
      classical rw [decide_eq_true hts] at h
      exact h
    · have h := uparse_any hTA m (bs (utxt t)) (by rw [bs_size]; omega) W (hw.step hb)
      have e3 : (bs (utxt t)).data.toList = utxt t := rfl
      rw [e3, back_plain m W (hw.step hb) t hts] at h
      refine h.mono ?_
      rintro e w' ⟨⟨A, c, rfl, hM, _⟩, hb'⟩
      exact ⟨⟨A, c, rfl, hM⟩, hb'⟩
  · refine uo_bad s t.any t.no t.l.length a e he h2 (by omega) w HW (Lib.hid fun W hb => ?_)
    refine (HP W hb).mono ?_
    rintro e w' ⟨⟨A, c, rfl, hM, _⟩, hb'⟩
    exact ⟨⟨A, c, rfl⟩, hb'⟩
set_option maxHeartbeats 8000000 in
set_option maxRecDepth 100000 in
theorem ut_no (s : ByteArray) (any no : Bool) (n : Nat) (a e : Int) (hc : ¬ e = 0 ∨ any = true ∨ no = true ∨ (60000 : Int) < (s.size : Int)) (w : World)
    (HW : Hid (∀ W, Below w.heap.size w W → Calls Tryz.prog 25 #[] W fun e w' => e = .returned (.bool true) ∧ Below W.heap.size W w'))
    (HP : Hid (∀ W, Below w.heap.size w W → Calls Tryz.prog 27 #[.string s] W fun x w' => (∃ A c, x = .returned (.tuple #[.agg #[.bool any, .bool no, .slice A n c], .int .i64 a, .int .i64 e])) ∧ Below W.heap.size W w')) :
    Calls Tryz.prog 7 #[.string s] w fun e w' => e = .returned (.bool true) ∧ Below w.heap.size w w' := by
  go_enter Tryz.func7, Tryz.ntmps7
  go_wp2_with fail
  refine (HP.out _ (by (repeat' (first | (with_reducible exact Below.refl _ _) | (with_reducible assumption) | (with_reducible refine balloc ?_ _) | (with_reducible refine Below.drew ?_) | (with_reducible refine bset ?_ ?_ _) | (with_reducible refine bstep ?_ (by with_reducible assumption)) | (with_reducible refine bturn ?_ (by with_reducible assumption) ?_) | go_size)))).mono ?_
  rintro x w1 ⟨⟨A, c, rfl⟩, hb1⟩
  have k1 : Blk (w1.alloc (.cells #[.bool any, .bool no, .slice A n c] 47)) w1.heap.size 47 #[.bool any, .bool no, .slice A n c] := Blk.new _ _ _
  go_wp2_with fail
  refine (HW.out _ (by (repeat' (first | (with_reducible exact Below.refl _ _) | (with_reducible assumption) | (with_reducible refine balloc ?_ _) | (with_reducible refine Below.drew ?_) | (with_reducible refine bset ?_ ?_ _) | (with_reducible refine bstep ?_ (by with_reducible assumption)) | (with_reducible refine bturn ?_ (by with_reducible assumption) ?_) | go_size)))).mono ?_
  rintro _ w2 ⟨rfl, hb2⟩
  have k2 := k1.step hb2
  have hb02 : Below w.heap.size w w2 := by (repeat' (first | (with_reducible exact Below.refl _ _) | (with_reducible assumption) | (with_reducible refine balloc ?_ _) | (with_reducible refine Below.drew ?_) | (with_reducible refine bset ?_ ?_ _) | (with_reducible refine bstep ?_ (by with_reducible assumption)) | (with_reducible refine bturn ?_ (by with_reducible assumption) ?_) | go_size))
  clear k1 hb1 hb2
  have hlu := k2.lt; have hllu := lts hlu; have qu0 := k2.cell 0; have qu1 := k2.cell 1; have qu2 := k2.cell 2; simp at qu0 qu1 qu2; have zu0 := k2.frozen 0; have zu1 := k2.frozen 1; have zu2 := k2.frozen 2; have Hk2 := Lib.hid k2; clear k2
  by_cases he : e = 0
  · subst he
    cases any with
    | true =>
      clear hc
      go_wp2_with fail
      refine (HW.out _ (by (repeat' (first | (with_reducible exact Below.refl _ _) | (with_reducible assumption) | (with_reducible refine balloc ?_ _) | (with_reducible refine Below.drew ?_) | (with_reducible refine bset ?_ ?_ _) | (with_reducible refine bstep ?_ (by with_reducible assumption)) | (with_reducible refine bturn ?_ (by with_reducible assumption) ?_) | go_size)))).mono ?_
      rintro _ w3 ⟨rfl, hb3⟩
      go_wp2_with fail
      go_returns
      exact ⟨by first | rfl | simp, by (repeat' (first | (with_reducible exact Below.refl _ _) | (with_reducible assumption) | (with_reducible refine balloc ?_ _) | (with_reducible refine Below.drew ?_) | (with_reducible refine bset ?_ ?_ _) | (with_reducible refine bstep ?_ (by with_reducible assumption)) | (with_reducible refine bturn ?_ (by with_reducible assumption) ?_) | go_size))⟩
    | false =>
      cases no with
      | true =>
        clear hc
        go_wp2_with fail
        refine (HW.out _ (by (repeat' (first | (with_reducible exact Below.refl _ _) | (with_reducible assumption) | (with_reducible refine balloc ?_ _) | (with_reducible refine Below.drew ?_) | (with_reducible refine bset ?_ ?_ _) | (with_reducible refine bstep ?_ (by with_reducible assumption)) | (with_reducible refine bturn ?_ (by with_reducible assumption) ?_) | go_size)))).mono ?_
        rintro _ w3 ⟨rfl, hb3⟩
        go_wp2_with fail
        go_returns
        exact ⟨by first | rfl | simp, by (repeat' (first | (with_reducible exact Below.refl _ _) | (with_reducible assumption) | (with_reducible refine balloc ?_ _) | (with_reducible refine Below.drew ?_) | (with_reducible refine bset ?_ ?_ _) | (with_reducible refine bstep ?_ (by with_reducible assumption)) | (with_reducible refine bturn ?_ (by with_reducible assumption) ?_) | go_size))⟩
      | false =>
        have hl : (60000 : Int) < (s.size : Int) := by
          rcases hc with h | h | h | h
          · exact absurd rfl h
          · cases h
          · cases h
          · exact h
        clear hc
        go_wp2_with fail
        refine (HW.out _ (by (repeat' (first | (with_reducible exact Below.refl _ _) | (with_reducible assumption) | (with_reducible refine balloc ?_ _) | (with_reducible refine Below.drew ?_) | (with_reducible refine bset ?_ ?_ _) | (with_reducible refine bstep ?_ (by with_reducible assumption)) | (with_reducible refine bturn ?_ (by with_reducible assumption) ?_) | go_size)))).mono ?_
        rintro _ w3 ⟨rfl, hb3⟩
        go_wp2_with fail
        go_returns
        exact ⟨by first | rfl | simp, by (repeat' (first | (with_reducible exact Below.refl _ _) | (with_reducible assumption) | (with_reducible refine balloc ?_ _) | (with_reducible refine Below.drew ?_) | (with_reducible refine bset ?_ ?_ _) | (with_reducible refine bstep ?_ (by with_reducible assumption)) | (with_reducible refine bturn ?_ (by with_reducible assumption) ?_) | go_size))⟩
  · have heb : (e != 0) = true := by simpa using he
    clear hc
    go_wp2_with fail
    refine (HW.out _ (by (repeat' (first | (with_reducible exact Below.refl _ _) | (with_reducible assumption) | (with_reducible refine balloc ?_ _) | (with_reducible refine Below.drew ?_) | (with_reducible refine bset ?_ ?_ _) | (with_reducible refine bstep ?_ (by with_reducible assumption)) | (with_reducible refine bturn ?_ (by with_reducible assumption) ?_) | go_size)))).mono ?_
    rintro _ w3 ⟨rfl, hb3⟩
    go_wp2_with fail
    go_returns
    exact ⟨by first | rfl | simp, by (repeat' (first | (with_reducible exact Below.refl _ _) | (with_reducible assumption) | (with_reducible refine balloc ?_ _) | (with_reducible refine Below.drew ?_) | (with_reducible refine bset ?_ ?_ _) | (with_reducible refine bstep ?_ (by with_reducible assumption)) | (with_reducible refine bturn ?_ (by with_reducible assumption) ?_) | go_size))⟩
set_option maxHeartbeats 8000000 in
set_option maxRecDepth 100000 in
theorem ut_yes (s S : ByteArray) (hs : ¬ (60000 : Int) < (s.size : Int)) (hS : (⟨#[110, 111, 116, 40]⟩ ++ s) ++ ⟨#[41]⟩ = S) (L : List Tst) (w : World)
    (HW : Hid (∀ W, Below w.heap.size w W → Calls Tryz.prog 25 #[] W fun e w' => e = .returned (.bool true) ∧ Below W.heap.size W w'))
    (HP : Hid (∀ W, Below w.heap.size w W → Calls Tryz.prog 27 #[.string s] W fun x w' => (∃ A c, x = .returned (.tuple #[.agg #[.bool false, .bool false, .slice A L.length c], .int .i64 0, .int .i64 0]) ∧ RM clT 13 w' A L ∧ ∀ g o, A = some ⟨g, o, none⟩ → W.heap.size ≤ g ∧ g < w'.heap.size) ∧ Below W.heap.size W w'))
    (HQ : Hid (∀ W, Below w.heap.size w W → Calls Tryz.prog 27 #[.string S] W fun x w' => (∃ A c, x = .returned (.tuple #[.agg #[.bool false, .bool true, .slice A L.length c], .int .i64 0, .int .i64 0]) ∧ RM clT 13 w' A L ∧ ∀ g o, A = some ⟨g, o, none⟩ → W.heap.size ≤ g) ∧ Below W.heap.size W w'))
    (HS : Hid (∀ A c B d W, RM clT 13 W A L → RM clT 13 W B L → Calls Tryz.prog 28 #[.agg #[.bool false, .bool true, .slice A L.length c], .agg #[.bool false, .bool true, .slice B L.length d]] W fun e w' => e = .returned (.bool true) ∧ Below W.heap.size W w')) :
    Calls Tryz.prog 7 #[.string s] w fun e w' => e = .returned (.bool true) ∧ Below w.heap.size w w' := by
  have f1 : 4 + s.size ≤ 9223372036854775807 := by omega
  have f2 : ((⟨#[110, 111, 116, 40]⟩ : ByteArray) ++ s).size + 1 ≤ 9223372036854775807 := by rw [ByteArray.size_append]; show 4 + s.size + 1 ≤ _; omega
  have f3 : 4 + s.size + 1 ≤ 9223372036854775807 := by omega
  go_enter Tryz.func7, Tryz.ntmps7
  go_wp2_with fail
  refine (HP.out _ (by (repeat' (first | (with_reducible exact Below.refl _ _) | (with_reducible assumption) | (with_reducible refine balloc ?_ _) | (with_reducible refine Below.drew ?_) | (with_reducible refine bset ?_ ?_ _) | (with_reducible refine bstep ?_ (by with_reducible assumption)) | (with_reducible refine bturn ?_ (by with_reducible assumption) ?_) | go_size)))).mono ?_
  rintro x w1 ⟨⟨A, c, rfl, hA, hAb⟩, hb1⟩
  have HA := Lib.hid hA
  have HAB := Lib.hid hAb
  have k1 : Blk (w1.alloc (.cells #[.bool false, .bool false, .slice A L.length c] 47)) w1.heap.size 47 #[.bool false, .bool false, .slice A L.length c] := Blk.new _ _ _
  have hz1 := hb1.size
  clear hA hAb
  go_wp2_with fail
  refine (HW.out _ (by (repeat' (first | (with_reducible exact Below.refl _ _) | (with_reducible assumption) | (with_reducible refine balloc ?_ _) | (with_reducible refine Below.drew ?_) | (with_reducible refine bset ?_ ?_ _) | (with_reducible refine bstep ?_ (by with_reducible assumption)) | (with_reducible refine bturn ?_ (by with_reducible assumption) ?_) | go_size)))).mono ?_
  rintro _ w2 ⟨rfl, hb2⟩
  have k2 := k1.step hb2
  have HA2 : Hid (RM clT 13 w2 A L) := Lib.hid ((HA.out.step (by (repeat' (first | (with_reducible exact Below.refl _ _) | (with_reducible assumption) | (with_reducible refine balloc ?_ _) | (with_reducible refine Below.drew ?_) | (with_reducible refine bset ?_ ?_ _) | (with_reducible refine bstep ?_ (by with_reducible assumption)) | (with_reducible refine bturn ?_ (by with_reducible assumption) ?_) | go_size)))).step hb2)
  have hb02 : Below w.heap.size w w2 := by (repeat' (first | (with_reducible exact Below.refl _ _) | (with_reducible assumption) | (with_reducible refine balloc ?_ _) | (with_reducible refine Below.drew ?_) | (with_reducible refine bset ?_ ?_ _) | (with_reducible refine bstep ?_ (by with_reducible assumption)) | (with_reducible refine bturn ?_ (by with_reducible assumption) ?_) | go_size))
  have K2 := Lib.hid k2
  clear k1 hb1 hb2
  have hlu := k2.lt; have hllu := lts hlu; have qu0 := k2.cell 0; have qu1 := k2.cell 1; have qu2 := k2.cell 2; simp at qu0 qu1 qu2; have zu0 := k2.frozen 0; have zu1 := k2.frozen 1; have zu2 := k2.frozen 2; have Hk2 := Lib.hid k2; clear k2
  go_wp2_with fail
  refine (HQ.out _ (by (repeat' (first | (with_reducible exact Below.refl _ _) | (with_reducible assumption) | (with_reducible refine balloc ?_ _) | (with_reducible refine Below.drew ?_) | (with_reducible refine bset ?_ ?_ _) | (with_reducible refine bstep ?_ (by with_reducible assumption)) | (with_reducible refine bturn ?_ (by with_reducible assumption) ?_) | go_size)))).mono ?_
  rintro x w3 ⟨⟨B, d, rfl, hB, hBb⟩, hb3⟩
  have HBB := Lib.hid hBb
  have k3 := K2.out.step hb3
  have HA3 : Hid (RM clT 13 w3 A L) := Lib.hid (HA2.out.step hb3)
  have HB3 := Lib.hid hB
  have hb03 : Below w.heap.size w w3 := by (repeat' (first | (with_reducible exact Below.refl _ _) | (with_reducible assumption) | (with_reducible refine balloc ?_ _) | (with_reducible refine Below.drew ?_) | (with_reducible refine bset ?_ ?_ _) | (with_reducible refine bstep ?_ (by with_reducible assumption)) | (with_reducible refine bturn ?_ (by with_reducible assumption) ?_) | go_size))
  have hl2 := K2.out.lt
  have hl3 := k3.lt
  have K3 := Lib.hid k3
  clear hB hBb K2 HA2 hb02 hb3 qu0 qu1 qu2 zu0 zu1 zu2 hlu hllu
  have hlu := k3.lt; have hllu := lts hlu; have qu0 := k3.cell 0; have qu1 := k3.cell 1; have qu2 := k3.cell 2; simp at qu0 qu1 qu2; have zu0 := k3.frozen 0; have zu1 := k3.frozen 1; have zu2 := k3.frozen 2; have Hk3 := Lib.hid k3; clear k3
  go_upto_region 6 with fail
  have k4' : Blk (w3.setCell ⟨w1.heap.size, 1, none⟩ (.bool true)) w1.heap.size 47 #[.bool false, .bool true, .slice A L.length c] := by
    have := K3.out.set_ 1 (.bool true)
    simpa using this
  have t4 : Turned w3 (w3.setCell ⟨w1.heap.size, 1, none⟩ (.bool true)) w1.heap.size := Turned.setCell _ _ _ _
  generalize w3.setCell ⟨w1.heap.size, 1, none⟩ (.bool true) = w4 at *
  have hz4 := t4.size
  have kt4 : Blk (w4.alloc (.cells #[.bool false, .bool true, .slice B L.length d] 47)) w3.heap.size 47 #[.bool false, .bool true, .slice B L.length d] := Blk.new' _ _ _ hz4.symm
  have k4 := k4'.alloc (.cells #[.bool false, .bool true, .slice B L.length d] 47)
  have HA5 := Lib.hid ((HA3.out.gr (b := w1.heap.size) ((Gr.refl _ _).turn t4) (fun g o e => by have := (HAB.out g o e).2; omega)).step (w' := w4.alloc (.cells #[.bool false, .bool true, .slice B L.length d] 47)) (by (repeat' (first | (with_reducible exact Below.refl _ _) | (with_reducible assumption) | (with_reducible refine balloc ?_ _) | (with_reducible refine Below.drew ?_) | (with_reducible refine bset ?_ ?_ _) | (with_reducible refine bstep ?_ (by with_reducible assumption)) | (with_reducible refine bturn ?_ (by with_reducible assumption) ?_) | go_size))))
  have HB5 := Lib.hid ((HB3.out.gr (b := w1.heap.size) ((Gr.refl _ _).turn t4) (fun g o e => by have := HBB.out g o e; omega)).step (w' := w4.alloc (.cells #[.bool false, .bool true, .slice B L.length d] 47)) (by (repeat' (first | (with_reducible exact Below.refl _ _) | (with_reducible assumption) | (with_reducible refine balloc ?_ _) | (with_reducible refine Below.drew ?_) | (with_reducible refine bset ?_ ?_ _) | (with_reducible refine bstep ?_ (by with_reducible assumption)) | (with_reducible refine bturn ?_ (by with_reducible assumption) ?_) | go_size))))
  have hb04 : Below w.heap.size w w4 := bturn hb03 t4 (by omega)
  clear HA3 HB3 t4 K3 hb03 qu0 qu1 qu2 zu0 zu1 zu2 hlu hllu k4'
  have hlu := k4.lt; have hllu := lts hlu; have qu0 := k4.cell 0; have qu1 := k4.cell 1; have qu2 := k4.cell 2; simp at qu0 qu1 qu2; have zu0 := k4.frozen 0; have zu1 := k4.frozen 1; have zu2 := k4.frozen 2; have Hk4 := Lib.hid k4; clear k4
  have hlv := kt4.lt; have hllv := lts hlv; have qv0 := kt4.cell 0; have qv1 := kt4.cell 1; have qv2 := kt4.cell 2; simp at qv0 qv1 qv2; have zv0 := kt4.frozen 0; have zv1 := kt4.frozen 1; have zv2 := kt4.frozen 2; have Hkt4 := Lib.hid kt4; clear kt4
  go_wp2_with fail
  refine (HS.out A c B d _ HA5.out HB5.out).mono ?_
  rintro _ w6 ⟨rfl, hb6⟩
  go_wp2_with fail
  go_returns
  exact ⟨by first | rfl | simp, by (repeat' (first | (with_reducible exact Below.refl _ _) | (with_reducible assumption) | (with_reducible refine balloc ?_ _) | (with_reducible refine Below.drew ?_) | (with_reducible refine bset ?_ ?_ _) | (with_reducible refine bstep ?_ (by with_reducible assumption)) | (with_reducible refine bturn ?_ (by with_reducible assumption) ?_) | go_size))⟩
theorem rm_lt {w : World} {A : Option Addr} {L : List Tst} (h : RM clT 13 w A L) (hL : 1 ≤ L.length) : ∀ g o, A = some ⟨g, o, none⟩ → g < w.heap.size := fun g o e => by
  obtain ⟨g', o', e', hc⟩ := h 0 L[0] (List.getElem?_eq_getElem hL)
  rw [e'] at e
  injection e with e
  injection e with e1 e2
  subst e1
  exact block_lt_of_cell (hc 0 _ rfl)
theorem uturned_any (hTA : Hid TestAny) (s : ByteArray) (hs : s.size ≤ 9223372036854775807) (m : Int) (w : World) (hw : OKW m w) :
    Calls Tryz.prog 7 #[.string s] w fun e w' => e = .returned (.bool true) ∧ Below w.heap.size w w' := by
  have HW := Lib.hid fun W (h : Below w.heap.size w W) => awake9 hTA m W (hw.step h)
  have HP := fun W (h : Below w.heap.size w W) => uparse_any hTA m s hs W (hw.step h)
  obtain ⟨h1, h2, h3⟩ := once_plain m w hw s.data.toList
  have hsz : (s.data.toList.length : Int) = (s.size : Int) := by simp
  obtain ⟨⟨t, a, e⟩, hr⟩ : ∃ r, unaryS (lxX m) s.data.toList = r := ⟨_, rfl⟩
  rw [hr] at h1 HP
  simp only at h1
  by_cases hc : ¬ e = 0 ∨ t.any = true ∨ t.no = true ∨ (60000 : Int) < (s.size : Int)
  · refine ut_no s t.any t.no t.l.length a e hc w HW (Lib.hid fun W hb => ?_)
    refine (HP W hb).mono ?_
    rintro e w' ⟨⟨A, c, rfl, hM, _⟩, hb'⟩
    exact ⟨⟨A, c, rfl⟩, hb'⟩
  · have he : e = 0 := Classical.byContradiction fun h => hc (.inl h)
    have hany : t.any = false := by
      cases h : t.any with
      | false => rfl
      | true => exact absurd (.inr (.inl h)) hc
    have hno : t.no = false := by
      cases h : t.no with
      | false => rfl
      | true => exact absurd (.inr (.inr (.inl h))) hc
    have hlen : ¬ (60000 : Int) < (s.size : Int) := fun h => hc (.inr (.inr (.inr h)))
    subst he
    have hts := h1 rfl
    have hl8 : 1 ≤ t.l.length ∧ t.l.length ≤ 1000 := by
      have h := hts
      unfold tsSound at h
      rw [if_neg (by rw [hany]; simp)] at h
      omega
    have hread : readT (newP (toksS (lxX m) s.data.toList) s.data.toList.length) = (t, a, 0) := by
      unfold unaryS at hr
      split at hr
      · injection hr with hr _
        rw [← hr] at hany
        cases hany
      · exact hr
    have ha : a = 0 := by
      unfold readT at hread
      split at hread
      · obtain ⟨_, h⟩ := out_ok (show (outT _ _ _).2.2 = 0 by rw [hread])
        rw [h] at hread
        injection hread with _ hread
        injection hread with hread _
        exact hread.symm
      · obtain ⟨_, h⟩ := out_ok (show (outT _ _ _).2.2 = 0 by rw [hread])
        rw [h] at hread
        injection hread with _ hread
        injection hread with hread _
        exact hread.symm
    subst ha
    have hturn := turned (lxX m) s.data.toList (by omega) (by rw [hread]) (by rw [hread]; exact hno)
    rw [hread] at hturn
    have hS : ((⟨#[110, 111, 116, 40]⟩ : ByteArray) ++ s) ++ ⟨#[41]⟩ = bs (notB ++ 40 :: (s.data.toList ++ [41])) := by
      have e1 : s = bs s.data.toList := bs_of rfl
      rw [e1, show (⟨#[110, 111, 116, 40]⟩ : ByteArray) = bs [110, 111, 116, 40] from rfl, show (⟨#[41]⟩ : ByteArray) = bs [41] from rfl, bs_app, bs_app]
      rfl
    refine ut_yes s _ hlen hS t.l w HW (Lib.hid fun W hb => ?_) (Lib.hid fun W hb => ?_) (Lib.hid fun A c B d W hA hB => same9_any false true A B t.l c d hl8.2 W hA hB)
    · refine (HP W hb).mono ?_
      rintro e w' ⟨⟨A, c, rfl, hM, hA⟩, hb'⟩
      exact ⟨⟨A, c, by rw [hany, hno], hM, fun g o e => ⟨hA g o e, rm_lt hM hl8.1 g o e⟩⟩, hb'⟩
    · have h := uparse_any hTA m (bs (notB ++ 40 :: (s.data.toList ++ [41]))) (by rw [bs_size, List.length_append, List.length_cons, List.length_append, List.length_cons, List.length_nil]; have : notB.length = 3 := rfl; omega) W (hw.step hb)
      have e3 : (bs (notB ++ 40 :: (s.data.toList ++ [41]))).data.toList = notB ++ 40 :: (s.data.toList ++ [41]) := rfl
      rw [e3, hturn] at h
      refine h.mono ?_
      rintro e w' ⟨⟨A, c, rfl, hM, hA⟩, hb'⟩
      exact ⟨⟨A, c, rfl, hM, hA⟩, hb'⟩
end Go.Proofs.YtkkeplmaphcblaaGreatDoor
