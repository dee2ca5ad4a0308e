/- The walk of LexOnce, and the law at every text. -/
import Derived.Test.YtambpkkllgppdaaGreatDoorLBackW
import Derived.Test.YtambpkkllgppdaaGreatDoorOncP
namespace Go.Proofs.YtambpkkllgppdaaGreatDoor
open Go.RowKit

set_option maxHeartbeats 4000000 in
set_option maxRecDepth 100000 in
theorem once_long (s : ByteArray) (h : (20000 : Int) < (s.size : Int)) (w : World)
    (HW : Hid (∀ W, Below w.heap.size w W → Calls Tryz.prog 10 #[] W fun e w' => e = .returned (.bool true) ∧ Below W.heap.size W w')) :
    Calls Tryz.prog 6 #[.string s] w fun e w' => e = .returned (.bool true) ∧ Below w.heap.size w w' := by
  go_enter Tryz.func6, Tryz.ntmps6
  go_wp2_with fail
  refine (HW.out _ (by (repeat' (first | (with_reducible exact Below.refl _ _) | (with_reducible assumption) | (with_reducible refine balloc ?_ _) | (with_reducible refine Below.drew ?_) | (with_reducible refine bset ?_ ?_ _) | (with_reducible refine bstep ?_ (by with_reducible assumption)) | (with_reducible refine bturn ?_ (by with_reducible assumption) ?_) | go_size)))).mono ?_
  rintro _ w1 ⟨rfl, hb1⟩
  go_wp2_with fail
  go_returns
  exact ⟨rfl, by (repeat' (first | (with_reducible exact Below.refl _ _) | (with_reducible assumption) | (with_reducible refine balloc ?_ _) | (with_reducible refine Below.drew ?_) | (with_reducible refine bset ?_ ?_ _) | (with_reducible refine bstep ?_ (by with_reducible assumption)) | (with_reducible refine bturn ?_ (by with_reducible assumption) ?_) | go_size))⟩
set_option maxHeartbeats 4000000 in
set_option maxRecDepth 100000 in
theorem once_bad (s : ByteArray) (h : ¬ (20000 : Int) < (s.size : Int)) (n : Nat) (L : List Tk) (an : Nat) (ae : Int) (hae : ¬ ae = 0) (w : World)
    (HA : Hid (Calls Tryz.prog 8 #[.string s] w fun e w' => (∃ A c, e = .returned (.tuple #[.slice A n c, .int .i64 (an : Int), .int .i64 ae]) ∧ TM w' A L) ∧ Below w.heap.size w w'))
    (HW : Hid (∀ W, Below w.heap.size w W → Calls Tryz.prog 10 #[] W fun e w' => e = .returned (.bool true) ∧ Below W.heap.size W w')) :
    Calls Tryz.prog 6 #[.string s] w fun e w' => e = .returned (.bool true) ∧ Below w.heap.size w w' := by
  have hjb : (ae != 0) = true := by simpa using hae
  go_enter Tryz.func6, Tryz.ntmps6
  go_wp2_with fail
  refine HA.out.mono ?_
  rintro _ w1 ⟨⟨A, c, rfl, _⟩, hb1⟩
  go_wp2_with fail
  refine (HW.out _ (by (repeat' (first | (with_reducible exact Below.refl _ _) | (with_reducible assumption) | (with_reducible refine balloc ?_ _) | (with_reducible refine Below.drew ?_) | (with_reducible refine bset ?_ ?_ _) | (with_reducible refine bstep ?_ (by with_reducible assumption)) | (with_reducible refine bturn ?_ (by with_reducible assumption) ?_) | go_size)))).mono ?_
  rintro _ w2 ⟨rfl, hb2⟩
  go_wp2_with fail
  refine (HW.out _ (by (repeat' (first | (with_reducible exact Below.refl _ _) | (with_reducible assumption) | (with_reducible refine balloc ?_ _) | (with_reducible refine Below.drew ?_) | (with_reducible refine bset ?_ ?_ _) | (with_reducible refine bstep ?_ (by with_reducible assumption)) | (with_reducible refine bturn ?_ (by with_reducible assumption) ?_) | go_size)))).mono ?_
  rintro _ w3 ⟨rfl, hb3⟩
  go_wp2_with fail
  go_returns
  exact ⟨rfl, by (repeat' (first | (with_reducible exact Below.refl _ _) | (with_reducible assumption) | (with_reducible refine balloc ?_ _) | (with_reducible refine Below.drew ?_) | (with_reducible refine bset ?_ ?_ _) | (with_reducible refine bstep ?_ (by with_reducible assumption)) | (with_reducible refine bturn ?_ (by with_reducible assumption) ?_) | go_size))⟩
set_option maxHeartbeats 4000000 in
set_option maxRecDepth 100000 in
theorem once_good (s : ByteArray) (h : ¬ (20000 : Int) < (s.size : Int)) (n : Nat) (L M : List Tk) (J : ByteArray) (w : World)
    (HA : Hid (Calls Tryz.prog 8 #[.string s] w fun e w' => (∃ A c, e = .returned (.tuple #[.slice A n c, .int .i64 0, .int .i64 0]) ∧ TM w' A L) ∧ Below w.heap.size w w'))
    (HW : Hid (∀ W, Below w.heap.size w W → Calls Tryz.prog 10 #[] W fun e w' => e = .returned (.bool true) ∧ Below W.heap.size W w'))
    (HJ : Hid (∀ A c W, Below w.heap.size w W → TM W A L → Calls Tryz.prog 14 #[.slice A n c] W fun e w' => e = .returned (.tuple #[.string J, .int .i64 0]) ∧ Below W.heap.size W w'))
    (HT : Hid (∀ W, Below w.heap.size w W → Calls Tryz.prog 8 #[.string J] W fun e w' => (∃ B d, e = .returned (.tuple #[.slice B n d, .int .i64 0, .int .i64 0]) ∧ TM w' B M) ∧ Below W.heap.size W w'))
    (HS : Hid (∀ A B c d W, TM W A L → TM W B M → Calls Tryz.prog 11 #[.slice A n c, .slice B n d, .bool false] W fun e w' => e = .returned (.bool true) ∧ Below W.heap.size W w')) :
    Calls Tryz.prog 6 #[.string s] w fun e w' => e = .returned (.bool true) ∧ Below w.heap.size w w' := by
  go_enter Tryz.func6, Tryz.ntmps6
  go_wp2_with fail
  refine HA.out.mono ?_
  rintro _ w1 ⟨⟨A, c, rfl, hA⟩, hb1⟩
  have HTA := Lib.hid hA
  clear hA
  go_wp2_with fail
  refine (HW.out _ (by (repeat' (first | (with_reducible exact Below.refl _ _) | (with_reducible assumption) | (with_reducible refine balloc ?_ _) | (with_reducible refine Below.drew ?_) | (with_reducible refine bset ?_ ?_ _) | (with_reducible refine bstep ?_ (by with_reducible assumption)) | (with_reducible refine bturn ?_ (by with_reducible assumption) ?_) | go_size)))).mono ?_
  rintro _ w2 ⟨rfl, hb2⟩
  go_wp2_with fail
  refine (HJ.out A c _ (by (repeat' (first | (with_reducible exact Below.refl _ _) | (with_reducible assumption) | (with_reducible refine balloc ?_ _) | (with_reducible refine Below.drew ?_) | (with_reducible refine bset ?_ ?_ _) | (with_reducible refine bstep ?_ (by with_reducible assumption)) | (with_reducible refine bturn ?_ (by with_reducible assumption) ?_) | go_size))) (HTA.out.step hb2)).mono ?_
  rintro _ w3 ⟨rfl, hb3⟩
  go_wp2_with fail
  refine (HT.out _ (by (repeat' (first | (with_reducible exact Below.refl _ _) | (with_reducible assumption) | (with_reducible refine balloc ?_ _) | (with_reducible refine Below.drew ?_) | (with_reducible refine bset ?_ ?_ _) | (with_reducible refine bstep ?_ (by with_reducible assumption)) | (with_reducible refine bturn ?_ (by with_reducible assumption) ?_) | go_size)))).mono ?_
  rintro _ w4 ⟨⟨B, d, rfl, hB⟩, hb4⟩
  have HTB := Lib.hid hB
  clear hB
  go_wp2_with fail
  refine (HS.out A B c d _ (((HTA.out.step hb2).step hb3).step hb4) HTB.out).mono ?_
  rintro _ w5 ⟨rfl, hb5⟩
  go_wp2_with fail
  go_returns
  exact ⟨by first | rfl | simp, by (repeat' (first | (with_reducible exact Below.refl _ _) | (with_reducible assumption) | (with_reducible refine balloc ?_ _) | (with_reducible refine Below.drew ?_) | (with_reducible refine bset ?_ ?_ _) | (with_reducible refine bstep ?_ (by with_reducible assumption)) | (with_reducible refine bturn ?_ (by with_reducible assumption) ?_) | go_size))⟩
theorem oncelaw_any (m : Int) (s : ByteArray) (w : World) (hw : OKW m w) :
    Calls Tryz.prog 6 #[.string s] w fun e w' => e = .returned (.bool true) ∧ Below w.heap.size w w' := by
  have HW := Lib.hid fun W (h : Below w.heap.size w W) => awake_lex m W (hw.step h)
  by_cases hl : (20000 : Int) < (s.size : Int)
  · exact once_long s hl w HW
  · have hsl : s.data.toList.length = s.size := by simp
    have HA := tokens_all (lxX m) m (lx_ok m) s _ rfl w hw
    by_cases he : (toksS (lxX m) s.data.toList).e = 0
    · have hd : toksS (lxX m) s.data.toList = toksA (lxX m) (s.data.toList.length + 1) 0 s.data.toList [] := by
        unfold toksS
        rw [if_neg (by omega)]
      obtain ⟨T, P, h1, h2, h3, h4, h5⟩ := once_toks m w hw (s.data.toList.length + 1) 0 s.data.toList [] (by omega) (by rw [← hd]; exact he)
      rw [← hd, List.nil_append] at h1
      have hz := toksS_zero (lxX m) _ he
      rw [hz, he, h1] at HA
      have hJl := joinB_len P
      have hfit : (joinB P).length ≤ 65536 := by omega
      have hv : joinV ((T.map Tk.i).map (wrS (lxX m))) = (joinB P, 0) := by unfold joinV; rw [h2]; exact if_pos hfit
      obtain ⟨e1, e2, e3⟩ := back_all (lxX m) (T.map Tk.i) P h2 hfit
      rw [List.length_map] at e2
      have hz2 := toksS_zero (lxX m) _ e1
      refine once_good s hl T.length T (toksS (lxX m) (joinB P)).l (bs (joinB P)) w (Lib.hid (HA.mono ?_)) HW (Lib.hid fun A c W h hA => ?_) (Lib.hid fun W h => ?_) (Lib.hid fun A B c d W hA hB => ?_)
      · rintro e w' ⟨⟨A, c, rfl, hA, _⟩, hb⟩
        exact ⟨⟨A, c, rfl, hA⟩, hb⟩
      · have := join_all m (T.map Tk.i) h4 (by rw [List.length_map]; omega) A c W (hw.step h) hA.i
        rw [hv, List.length_map] at this
        exact this
      · refine (tokens_all (lxX m) m (lx_ok m) (bs (joinB P)) (joinB P) rfl W (hw.step h)).mono ?_
        rintro e w' ⟨⟨B, d, rfl, hB, _⟩, hb⟩
        exact ⟨⟨B, d, by rw [e2, hz2, e1]; rfl, hB⟩, hb⟩
      · refine same_ok false T (toksS (lxX m) (joinB P)).l T.length rfl e2 (by omega) A B c d W hA hB (fun i t u ht hu => ?_)
        obtain ⟨g1, g2, g3, g4, g5⟩ := e3 i t.i u (by rw [List.getElem?_map, ht]; rfl) hu
        exact ⟨g1.symm, g2.symm, g3.symm, g4.symm, g5.symm, fun h => by cases h⟩
    · refine once_bad s hl (toksS (lxX m) s.data.toList).l.length (toksS (lxX m) s.data.toList).l (toksS (lxX m) s.data.toList).n _ he w (Lib.hid (HA.mono ?_)) HW
      rintro e w' ⟨⟨A, c, rfl, hA, _⟩, hb⟩
      exact ⟨⟨A, c, rfl, hA⟩, hb⟩
end Go.Proofs.YtambpkkllgppdaaGreatDoor
