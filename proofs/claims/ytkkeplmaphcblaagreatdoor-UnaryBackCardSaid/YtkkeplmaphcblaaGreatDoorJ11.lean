/- The walk of the reference's value.Sound (layer 4). The walk of the reference's Sound of tests (layer 9). The walk of the reference's Same of tests (layer 9), at tests that are one. What layer 9's awake finds, and the walks of the laws of unary. Printed by gunl.py. The walks of the laws UnaryOnce and UnaryTurned. The end of a function: a struct goes out of its block into the result's, and the call returns. -/
import Derived.Test.YtkkeplmaphcblaaGreatDoorJ10
import Derived.Test.YtkkeplmaphcblaaGreatDoorJ4
import Derived.Test.YtkkeplmaphcblaaGreatDoorJ7
import Derived.Deep.DeepCutAuto
import Derived.Test.YtkkeplmaphcblaaGreatDoorJ8
import Derived.Test.YtkkeplmaphcblaaGreatDoorJ9
import Derived.Test.YtkkeplmaphcblaaGreatDoorJ1
namespace Go.Proofs.YtkkeplmaphcblaaGreatDoor
open Go.RowKit

def r4R (k : Int) (N E sd : Bool) (m : Int) (sz gd : Bool) : Bool :=
  if k = 0 then N && E && m == 0 else if k = 1 then sd && E && m == 0 else if k = 2 then N && m == 0 && sz && gd else if k = 3 then N && E && (m == 0 || m == 1) else if k = 4 then N && E && decide (0 ≤ m) && decide (m ≤ 3652058) else false
section
variable (k n s m : Int) (q : ByteArray) (w : World) (N E sd gd : Bool)
set_option maxHeartbeats 16000000 in
set_option maxRecDepth 100000 in
theorem r4_walk (hN : (n == 0 && s == 0) = N) (hE : q.toList.isEmpty = E)
    (KD : Hid (∀ W, Below w.heap.size w W → Calls Tryz.prog 73 #[.agg #[.int .i64 n, .int .i64 s]] W fun e w' => e = .returned (.bool sd) ∧ Below W.heap.size W w'))
    (KG : Hid ((q.size : Int) ≤ 256 → ∀ W, Calls Tryz.prog 74 #[.string q] W fun e w' => e = .returned (.bool gd) ∧ W = w')) :
    Calls Tryz.prog 39 #[.agg #[.int .i64 k, .int .i64 n, .int .i64 s, .string q, .int .i64 m]] w fun e w' => e = .returned (.bool (r4R k N E sd m (decide ((q.size : Int) ≤ 256)) gd)) ∧ Below w.heap.size w w' := by
  have HN := Lib.hid hN
  clear hN
  go_enter Tryz.func39, Tryz.ntmps39
  go_upto_region 1 with fail
  go_cut [3] (fun x wx => x = .bool N ∧ wx = w.alloc (.cells #[.int .i64 k, .int .i64 n, .int .i64 s, .string q, .int .i64 m] 25))
  case first =>
    by_cases h1 : n = 0
    · subst h1
      go_wp2_with fail
      go_meet
      case rel => exact ⟨by rw [← HN.out]; rfl, rfl⟩
    · go_wp2_with fail
      go_meet
      case rel => exact ⟨by rw [← HN.out, beq_eq_false_iff_ne.2 h1]; first | done | rfl, rfl⟩
  case rest =>
    obtain ⟨rfl, rfl⟩ := hcut
    by_cases k0 : k = 0
    · subst k0
      cases N
      case' true => cases E
      all_goals
        go_wp2_with fail
        go_returns
        refine ⟨?_, by (repeat' (first | (with_reducible exact Below.refl _ _) | (with_reducible assumption) | (with_reducible refine balloc ?_ _) | (with_reducible refine Below.drew ?_) | (with_reducible refine bset ?_ ?_ _) | (with_reducible refine bstep ?_ (by with_reducible assumption)) | (with_reducible refine bturn ?_ (by with_reducible assumption) ?_) | go_size))⟩
        simp [r4R]
    by_cases k1 : k = 1
    · subst k1
      have kb : Blk (w.alloc (.cells #[.int .i64 1, .int .i64 n, .int .i64 s, .string q, .int .i64 m] 25)) w.heap.size 25 #[.int .i64 1, .int .i64 n, .int .i64 s, .string q, .int .i64 m] := Blk.new _ _ _
      go_wp2_with fail
      refine (KD.out _ (by (repeat' (first | (with_reducible exact Below.refl _ _) | (with_reducible assumption) | (with_reducible refine balloc ?_ _) | (with_reducible refine Below.drew ?_) | (with_reducible refine bset ?_ ?_ _) | (with_reducible refine bstep ?_ (by with_reducible assumption)) | (with_reducible refine bturn ?_ (by with_reducible assumption) ?_) | go_size)))).mono ?_
      rintro e w1 ⟨rfl, hb1⟩
      have kb1 := kb.step hb1
      have hb01 : Below w.heap.size w w1 := by (repeat' (first | (with_reducible exact Below.refl _ _) | (with_reducible assumption) | (with_reducible refine balloc ?_ _) | (with_reducible refine Below.drew ?_) | (with_reducible refine bset ?_ ?_ _) | (with_reducible refine bstep ?_ (by with_reducible assumption)) | (with_reducible refine bturn ?_ (by with_reducible assumption) ?_) | go_size))
      clear kb hb1
      have hlu := kb1.lt; have hllu := lts hlu; have qu0 := kb1.cell 0; have qu1 := kb1.cell 1; have qu2 := kb1.cell 2; have qu3 := kb1.cell 3; have qu4 := kb1.cell 4; simp at qu0 qu1 qu2 qu3 qu4; have zu0 := kb1.frozen 0; have zu1 := kb1.frozen 1; have zu2 := kb1.frozen 2; have zu3 := kb1.frozen 3; have zu4 := kb1.frozen 4; have Hkb1 := Lib.hid kb1; clear kb1
      cases sd
      case' true => cases E
      all_goals
        go_wp2_with fail
        go_returns
        refine ⟨?_, by (repeat' (first | (with_reducible exact Below.refl _ _) | (with_reducible assumption) | (with_reducible refine balloc ?_ _) | (with_reducible refine Below.drew ?_) | (with_reducible refine bset ?_ ?_ _) | (with_reducible refine bstep ?_ (by with_reducible assumption)) | (with_reducible refine bturn ?_ (by with_reducible assumption) ?_) | go_size))⟩
        simp [r4R]
    by_cases k2 : k = 2
    · subst k2
      cases N with
      | false =>
        go_wp2_with fail
        go_returns
        refine ⟨?_, by (repeat' (first | (with_reducible exact Below.refl _ _) | (with_reducible assumption) | (with_reducible refine balloc ?_ _) | (with_reducible refine Below.drew ?_) | (with_reducible refine bset ?_ ?_ _) | (with_reducible refine bstep ?_ (by with_reducible assumption)) | (with_reducible refine bturn ?_ (by with_reducible assumption) ?_) | go_size))⟩
        simp [r4R]
      | true =>
        by_cases hm : m = 0
        · subst hm
          by_cases hq : (q.size : Int) ≤ 256
          · have KG1 := Lib.hid (KG.out hq)
            have HQ : Hid (decide ((q.size : Int) ≤ 256) = true) := Lib.hid (decide_eq_true hq)
            go_wp2_with fail
            refine (KG1.out _).mono ?_
            rintro e w1 ⟨rfl, rfl⟩
            go_wp2_with fail
            go_returns
            refine ⟨?_, by (repeat' (first | (with_reducible exact Below.refl _ _) | (with_reducible assumption) | (with_reducible refine balloc ?_ _) | (with_reducible refine Below.drew ?_) | (with_reducible refine bset ?_ ?_ _) | (with_reducible refine bstep ?_ (by with_reducible assumption)) | (with_reducible refine bturn ?_ (by with_reducible assumption) ?_) | go_size))⟩
            rw [HQ.out]
            simp [r4R]
          · have HQ : Hid (decide ((q.size : Int) ≤ 256) = false) := Lib.hid (decide_eq_false hq)
            go_wp2_with fail
            go_returns
            refine ⟨?_, by (repeat' (first | (with_reducible exact Below.refl _ _) | (with_reducible assumption) | (with_reducible refine balloc ?_ _) | (with_reducible refine Below.drew ?_) | (with_reducible refine bset ?_ ?_ _) | (with_reducible refine bstep ?_ (by with_reducible assumption)) | (with_reducible refine bturn ?_ (by with_reducible assumption) ?_) | go_size))⟩
            rw [HQ.out]
            simp [r4R]
        · have HM := Lib.hid (beq_eq_false_iff_ne.2 hm)
          go_wp2_with fail
          go_returns
          refine ⟨?_, by (repeat' (first | (with_reducible exact Below.refl _ _) | (with_reducible assumption) | (with_reducible refine balloc ?_ _) | (with_reducible refine Below.drew ?_) | (with_reducible refine bset ?_ ?_ _) | (with_reducible refine bstep ?_ (by with_reducible assumption)) | (with_reducible refine bturn ?_ (by with_reducible assumption) ?_) | go_size))⟩
          simp [r4R]
          intro h
          exact absurd h hm
    by_cases k3 : k = 3
    · subst k3
      cases N
      case' true => cases E
      case' true.true => by_cases hm : m = 0
      all_goals
        go_wp2_with fail
        go_returns
        refine ⟨?_, by (repeat' (first | (with_reducible exact Below.refl _ _) | (with_reducible assumption) | (with_reducible refine balloc ?_ _) | (with_reducible refine Below.drew ?_) | (with_reducible refine bset ?_ ?_ _) | (with_reducible refine bstep ?_ (by with_reducible assumption)) | (with_reducible refine bturn ?_ (by with_reducible assumption) ?_) | go_size))⟩
        first | (simp [r4R]; done) | simp [r4R, hm]
    by_cases k4 : k = 4
    · subst k4
      cases N
      case' true => cases E
      case' true.true => by_cases hm : 0 ≤ m
      all_goals
        try have HM := Lib.hid hm
        go_wp2_with fail
        go_returns
        refine ⟨?_, by (repeat' (first | (with_reducible exact Below.refl _ _) | (with_reducible assumption) | (with_reducible refine balloc ?_ _) | (with_reducible refine Below.drew ?_) | (with_reducible refine bset ?_ ?_ _) | (with_reducible refine bstep ?_ (by with_reducible assumption)) | (with_reducible refine bturn ?_ (by with_reducible assumption) ?_) | go_size))⟩
        first | (simp [r4R]; done) | (simp [r4R]; omega)
    · have HK := Lib.hid (And.intro k0 (And.intro k1 (And.intro k2 (And.intro k3 k4))))
      go_wp2_with fail
      go_returns
      refine ⟨?_, by (repeat' (first | (with_reducible exact Below.refl _ _) | (with_reducible assumption) | (with_reducible refine balloc ?_ _) | (with_reducible refine Below.drew ?_) | (with_reducible refine bset ?_ ?_ _) | (with_reducible refine bstep ?_ (by with_reducible assumption)) | (with_reducible refine bturn ?_ (by with_reducible assumption) ?_) | go_size))⟩
      unfold r4R
      obtain ⟨g0, g1, g2, g3, g4⟩ := HK.out
      rw [if_neg g0, if_neg g1, if_neg g2, if_neg g3, if_neg g4]
      try rfl
end
end Go.Proofs.YtkkeplmaphcblaaGreatDoor

namespace Go.Proofs.YtkkeplmaphcblaaGreatDoor
open Go.RowKit Go.Shelf
attribute [local go_sem high] run_vl_eql run_vl_neq

open Classical in
theorem r4_any (v : Vl) (hv : VOk v) (w : World) :
    Calls Tryz.prog 39 #[.agg (cellsV v)] w fun e w' => e = .returned (.bool (decide (vSound v))) ∧ Below w.heap.size w w' := by
  have e : r4R v.k (v.n == 0 && v.s == 0) (bs v.t).toList.isEmpty (soundS v.n v.s) v.m (decide (((bs v.t).size : Int) ≤ 256)) (goodS (bs v.t)) = decide (vSound v) := by
    rw [Bool.eq_iff_iff, decide_eq_true_iff]
    obtain ⟨k, n, s, t, m⟩ := v
    have hs : (((bs t).size : Int) ≤ 256) ↔ t.length ≤ 256 := by rw [bs_size]; omega
    unfold r4R vSound
    simp only [bs_toList]
    by_cases h0 : k = 0
    · rw [if_pos h0]
      simp [h0]
      constructor
      · rintro ⟨⟨⟨a, b⟩, c⟩, d⟩
        exact ⟨a, b, c, d⟩
      · rintro ⟨a, b, c, d⟩
        exact ⟨⟨⟨a, b⟩, c⟩, d⟩
    · rw [if_neg h0]
      by_cases h1 : k = 1
      · rw [if_pos h1]
        simp [h1]
        constructor
        · rintro ⟨⟨a, b⟩, c⟩
          exact ⟨a, b, c⟩
        · rintro ⟨a, b, c⟩
          exact ⟨⟨a, b⟩, c⟩
      · rw [if_neg h1]
        by_cases h2 : k = 2
        · rw [if_pos h2]
          simp only [Bool.and_eq_true, beq_iff_eq, decide_eq_true_iff, hs]
          subst h2
          constructor
          · rintro ⟨⟨⟨⟨a, b⟩, c⟩, d⟩, e⟩
            exact .inr (.inr (.inl ⟨rfl, a, b, c, d, e⟩))
          · rintro (h | h | h | h | h)
            · exact absurd h.1 (by decide)
            · exact absurd h.1 (by decide)
            · exact ⟨⟨⟨⟨h.2.1, h.2.2.1⟩, h.2.2.2.1⟩, h.2.2.2.2.1⟩, h.2.2.2.2.2⟩
            · exact absurd h.1 (by decide)
            · exact absurd h.1 (by decide)
        · rw [if_neg h2]
          by_cases h3 : k = 3
          · rw [if_pos h3]
            simp [h3]
            constructor
            · rintro ⟨⟨⟨a, b⟩, c⟩, d⟩
              exact ⟨a, b, c, d⟩
            · rintro ⟨a, b, c, d⟩
              exact ⟨⟨⟨a, b⟩, c⟩, d⟩
          · rw [if_neg h3]
            by_cases h4 : k = 4
            · rw [if_pos h4]
              simp [h4]
              constructor
              · rintro ⟨⟨⟨⟨a, b⟩, c⟩, d⟩, e⟩
                exact ⟨a, b, c, d, e⟩
              · rintro ⟨a, b, c, d, e⟩
                exact ⟨⟨⟨⟨a, b⟩, c⟩, d⟩, e⟩
            · rw [if_neg h4]
              simp [h0, h1, h2, h3, h4]
  have h := r4_walk v.k v.n v.s v.m (bs v.t) w _ _ (soundS v.n v.s) (goodS (bs v.t)) rfl rfl (Lib.hid fun W _ => rsound_any v.n v.s hv.n.1 hv.n.2 hv.s.1 hv.s.2 W) (Lib.hid fun hq W => rgood4_any (bs v.t) (by omega) _ rfl W)
  rw [e] at h
  exact h

set_option maxHeartbeats 16000000 in
set_option maxRecDepth 100000 in
theorem rs9_list (no : Bool) (A : Option Addr) (L : List Tst) (c : Nat) (h1 : 1 ≤ L.length) (h8 : L.length ≤ 8) (P : Tst → Bool) (S4 : Vl → Bool) (w : World) (hM : RM clT 13 w A L)
    (HP : Hid (∀ t : Tst, oneR t.k (t.lo.k == 1 || t.lo.k == 4) (S4 t.lo) (S4 t.hi) (t.hi.k == t.lo.k) (vlq t.hi.k t.hi.n t.hi.s (bs t.hi.t) t.hi.m 0 0 0 ⟨#[]⟩ 0) t.ol t.oh = P t))
    (KS : Hid (∀ t ∈ L, (∀ W, Calls Tryz.prog 39 #[.agg (cellsV t.lo)] W fun e w' => e = .returned (.bool (S4 t.lo)) ∧ Below W.heap.size W w') ∧ (∀ W, Calls Tryz.prog 39 #[.agg (cellsV t.hi)] W fun e w' => e = .returned (.bool (S4 t.hi)) ∧ Below W.heap.size W w')))
    (b : Bool) (hb : b = true ↔ ∀ t ∈ L, P t = true) :
    Calls Tryz.prog 26 #[.agg #[.bool false, .bool no, .slice A L.length c]] w fun e w' => e = .returned (.bool b) ∧ Below w.heap.size w w' := by
  have HB := Lib.hid hb
  have HM := Lib.hid hM
  have h1i : ¬ (L.length : Int) < 1 := by omega
  have h8i : ¬ (8 : Int) < (L.length : Int) := by omega
  have k0 : Blk (w.alloc (.cells #[.bool false, .bool no, .slice A L.length c] 47)) w.heap.size 47 #[.bool false, .bool no, .slice A L.length c] := Blk.new _ _ _
  clear hM hb
  go_enter Tryz.func26, Tryz.ntmps26
  go_wp2_with fail
  go_loopw [3, 4, 5] (fun i _ _ wr => ∃ k : Nat, k ≤ L.length ∧ i = .int .i64 (k : Int) ∧ Below w.heap.size w wr ∧ Blk wr w.heap.size 47 #[.bool false, .bool no, .slice A L.length c] ∧ Hid (∀ (j : Nat) (t : Tst), j < k → L[j]? = some t → P t = true)) (fun i _ _ _ => L.length - (intOf i).toNat)
  case atStart => exact ⟨0, by omega, rfl, by (repeat' (first | (with_reducible exact Below.refl _ _) | (with_reducible assumption) | (with_reducible refine balloc ?_ _) | (with_reducible refine Below.drew ?_) | (with_reducible refine bset ?_ ?_ _) | (with_reducible refine bstep ?_ (by with_reducible assumption)) | (with_reducible refine bturn ?_ (by with_reducible assumption) ?_) | go_size)), k0, Lib.hid (fun j t h => absurd h (by omega))⟩
  case round =>
    obtain ⟨k, hk, rfl, hbr, kb, HQ⟩ := hrel
    by_cases hlt : k < L.length
    · obtain ⟨t, ht⟩ : ∃ t, L[k]? = some t := ⟨L[k], List.getElem?_eq_getElem hlt⟩
      have hki : (k : Int) < (L.length : Int) := by omega
      have hk8 : k ≤ 8 := by omega
      have hmem : t ∈ L := List.mem_of_getElem? ht
      obtain ⟨ks1, ks2⟩ := KS.out t hmem
      have hp := HP.out t
      obtain ⟨pt, hpt⟩ : ∃ x, P t = x := ⟨_, rfl⟩
      have HNO : Hid (pt = false → false = b) := Lib.hid fun h => by
        cases hbb : b with
        | false => rfl
        | true =>
          have := HB.out.1 hbb t hmem
          rw [hpt, h] at this
          cases this
      have HGO : Hid (pt = true → ∀ (j : Nat) (u : Tst), j < k + 1 → L[j]? = some u → P u = true) := Lib.hid fun h j u hj hu => by
        by_cases he : j = k
        · subst he
          rw [ht] at hu
          injection hu with hu
          rw [← hu, hpt, h]
        · exact HQ.out j u (by omega) hu
      rw [hpt] at hp
      obtain ⟨g, o, rfl, HC⟩ := rmt_get HM.out ht
      obtain ⟨tk, ⟨lk, ln, ls, lt, lm⟩, ⟨xk, xn, xs, xt, xm⟩, ol, oh⟩ := t
      simp only at HC hp ks1 ks2
      obtain ⟨sl, hsl⟩ : ∃ x, S4 ⟨lk, ln, ls, lt, lm⟩ = x := ⟨_, rfl⟩
      obtain ⟨sh, hsh⟩ : ∃ x, S4 ⟨xk, xn, xs, xt, xm⟩ = x := ⟨_, rfl⟩
      obtain ⟨lq, hlq⟩ : ∃ q, bs lt = q := ⟨_, rfl⟩
      obtain ⟨xq, hhq⟩ : ∃ q, bs xt = q := ⟨_, rfl⟩
      rw [cellsV_eq hlq, hsl] at ks1
      rw [cellsV_eq hhq, hsh] at ks2
      rw [hsl, hsh, hhq] at hp
      rw [hlq, hhq] at HC
      have K1 := Lib.hid ks1
      have K2 := Lib.hid ks2
      obtain ⟨R, hR⟩ : ∃ x, (lk == 1 || lk == 4) = x := ⟨_, rfl⟩
      obtain ⟨Z, hZ⟩ : ∃ x, vlq xk xn xs xq xm 0 0 0 ⟨#[]⟩ 0 = x := ⟨_, rfl⟩
      rw [hR, hZ] at hp
      have HO := Lib.hid hp
      have HR := Lib.hid hR
      obtain ⟨c0, c1, c2, c3, c4, c5, c6, c7, c8, c9, c10, c11, c12⟩ := HC
      replace c0 := keep1 hbr c0
      replace c1 := keep1 hbr c1
      replace c2 := keep1 hbr c2
      replace c3 := keep1 hbr c3
      replace c4 := keep1 hbr c4
      replace c5 := keep1 hbr c5
      replace c6 := keep1 hbr c6
      replace c7 := keep1 hbr c7
      replace c8 := keep1 hbr c8
      replace c9 := keep1 hbr c9
      replace c10 := keep1 hbr c10
      replace c11 := keep1 hbr c11
      replace c12 := keep1 hbr c12
      have KB := Lib.hid kb
      clear hlt ht hmem ks1 ks2 hp hpt hsl hsh hlq hhq hR HQ
      have hlu := kb.lt; have hllu := lts hlu; have qu0 := kb.cell 0; have qu1 := kb.cell 1; have qu2 := kb.cell 2; simp at qu0 qu1 qu2; have zu0 := kb.frozen 0; have zu1 := kb.frozen 1; have zu2 := kb.frozen 2; have Hkb := Lib.hid kb; clear kb
      go_upto_region 9 with fail
      have kt : Blk (wr.alloc (.cells #[.int .i64 tk, .int .i64 lk, .int .i64 ln, .int .i64 ls, .string lq, .int .i64 lm, .int .i64 xk, .int .i64 xn, .int .i64 xs, .string xq, .int .i64 xm, .bool ol, .bool oh] 82)) wr.heap.size 82 #[.int .i64 tk, .int .i64 lk, .int .i64 ln, .int .i64 ls, .string lq, .int .i64 lm, .int .i64 xk, .int .i64 xn, .int .i64 xs, .string xq, .int .i64 xm, .bool ol, .bool oh] := Blk.new _ _ _
      have hbt : Below wr.heap.size wr (wr.alloc (.cells #[.int .i64 tk, .int .i64 lk, .int .i64 ln, .int .i64 ls, .string lq, .int .i64 lm, .int .i64 xk, .int .i64 xn, .int .i64 xs, .string xq, .int .i64 xm, .bool ol, .bool oh] 82)) := by (repeat' (first | (with_reducible exact Below.refl _ _) | (with_reducible assumption) | (with_reducible refine balloc ?_ _) | (with_reducible refine Below.drew ?_) | (with_reducible refine bset ?_ ?_ _) | (with_reducible refine bstep ?_ (by with_reducible assumption)) | (with_reducible refine bturn ?_ (by with_reducible assumption) ?_) | go_size))
      generalize wr.alloc (.cells #[.int .i64 tk, .int .i64 lk, .int .i64 ln, .int .i64 ls, .string lq, .int .i64 lm, .int .i64 xk, .int .i64 xn, .int .i64 xs, .string xq, .int .i64 xm, .bool ol, .bool oh] 82) = wt at *
      have kb2 := KB.out.step hbt
      have hbw : Below w.heap.size w wt := by (repeat' (first | (with_reducible exact Below.refl _ _) | (with_reducible assumption) | (with_reducible refine balloc ?_ _) | (with_reducible refine Below.drew ?_) | (with_reducible refine bset ?_ ?_ _) | (with_reducible refine bstep ?_ (by with_reducible assumption)) | (with_reducible refine bturn ?_ (by with_reducible assumption) ?_) | go_size))
      have hzt := kt.lt
      have KT := Lib.hid kt
      have KB2 := Lib.hid kb2
      clear c0 c1 c2 c3 c4 c5 c6 c7 c8 c9 c10 c11 c12 KB qu0 qu1 qu2 zu0 zu1 zu2 hlu hllu hbr hbt kb2 Hkb
      have hlx := kt.lt; have hllx := lts hlx; have qx0 := kt.cell 0; have qx1 := kt.cell 1; have qx2 := kt.cell 2; have qx3 := kt.cell 3; have qx4 := kt.cell 4; have qx5 := kt.cell 5; have qx6 := kt.cell 6; have qx7 := kt.cell 7; have qx8 := kt.cell 8; have qx9 := kt.cell 9; have qx10 := kt.cell 10; have qx11 := kt.cell 11; have qx12 := kt.cell 12; simp at qx0 qx1 qx2 qx3 qx4 qx5 qx6 qx7 qx8 qx9 qx10 qx11 qx12; have zx0 := kt.frozen 0; have zx1 := kt.frozen 1; have zx2 := kt.frozen 2; have zx3 := kt.frozen 3; have zx4 := kt.frozen 4; have zx5 := kt.frozen 5; have zx6 := kt.frozen 6; have zx7 := kt.frozen 7; have zx8 := kt.frozen 8; have zx9 := kt.frozen 9; have zx10 := kt.frozen 10; have zx11 := kt.frozen 11; have zx12 := kt.frozen 12; have Hkt := Lib.hid kt; clear kt
      go_cut [5] (fun x wx => x = .bool R ∧ wx = wt)
      case first =>
        by_cases h1 : lk = 1
        · go_wp2_with fail
          go_meet
          case rel => exact ⟨by rw [← HR.out]; simp [h1], by first | rfl | trivial⟩
        · go_wp2_with fail
          go_meet
          case rel => exact ⟨by rw [← HR.out, beq_eq_false_iff_ne.2 h1]; first | done | rfl | simp, by first | rfl | trivial⟩
      case rest =>
        obtain ⟨rfl, rfl⟩ := hcut
        go_wp2_with fail
        refine (K1.out _).mono ?_
        rintro e w2 ⟨rfl, hb2⟩
        have kt2 := KT.out.step hb2
        have KB3 := Lib.hid (KB2.out.step hb2)
        have hbw2 : Below w.heap.size w w2 := bstep hbw hb2
        have KT2 := Lib.hid kt2
        clear qx0 qx1 qx2 qx3 qx4 qx5 qx6 qx7 qx8 qx9 qx10 qx11 qx12 zx0 zx1 zx2 zx3 zx4 zx5 zx6 zx7 zx8 zx9 zx10 zx11 zx12 hlx hllx KT KB2 Hkt hbw hb2
        have hlx := kt2.lt; have hllx := lts hlx; have qx0 := kt2.cell 0; have qx1 := kt2.cell 1; have qx2 := kt2.cell 2; have qx3 := kt2.cell 3; have qx4 := kt2.cell 4; have qx5 := kt2.cell 5; have qx6 := kt2.cell 6; have qx7 := kt2.cell 7; have qx8 := kt2.cell 8; have qx9 := kt2.cell 9; have qx10 := kt2.cell 10; have qx11 := kt2.cell 11; have qx12 := kt2.cell 12; simp at qx0 qx1 qx2 qx3 qx4 qx5 qx6 qx7 qx8 qx9 qx10 qx11 qx12; have zx0 := kt2.frozen 0; have zx1 := kt2.frozen 1; have zx2 := kt2.frozen 2; have zx3 := kt2.frozen 3; have zx4 := kt2.frozen 4; have zx5 := kt2.frozen 5; have zx6 := kt2.frozen 6; have zx7 := kt2.frozen 7; have zx8 := kt2.frozen 8; have zx9 := kt2.frozen 9; have zx10 := kt2.frozen 10; have zx11 := kt2.frozen 11; have zx12 := kt2.frozen 12; have Hkt2 := Lib.hid kt2; clear kt2
        cases sl with
        | false =>
          have HX := Lib.hid (HNO.out (by rw [← HO.out]; simp [oneR]))
          go_wp2_with fail
          go_returns
          exact ⟨by rw [← HX.out]; first | done | rfl, by (repeat' (first | (with_reducible exact Below.refl _ _) | (with_reducible assumption) | (with_reducible refine balloc ?_ _) | (with_reducible refine Below.drew ?_) | (with_reducible refine bset ?_ ?_ _) | (with_reducible refine bstep ?_ (by with_reducible assumption)) | (with_reducible refine bturn ?_ (by with_reducible assumption) ?_) | go_size))⟩
        | true =>
          go_wp2_with fail
          refine (K2.out _).mono ?_
          rintro e w3 ⟨rfl, hb3⟩
          have kt3 := KT2.out.step hb3
          replace KB3 := Lib.hid (KB3.out.step hb3)
          have hbw3 : Below w.heap.size w w3 := bstep hbw2 hb3
          clear qx0 qx1 qx2 qx3 qx4 qx5 qx6 qx7 qx8 qx9 qx10 qx11 qx12 zx0 zx1 zx2 zx3 zx4 zx5 zx6 zx7 zx8 zx9 zx10 zx11 zx12 hlx hllx KT2 Hkt2 hbw2 hb3
          have hlx := kt3.lt; have hllx := lts hlx; have qx0 := kt3.cell 0; have qx1 := kt3.cell 1; have qx2 := kt3.cell 2; have qx3 := kt3.cell 3; have qx4 := kt3.cell 4; have qx5 := kt3.cell 5; have qx6 := kt3.cell 6; have qx7 := kt3.cell 7; have qx8 := kt3.cell 8; have qx9 := kt3.cell 9; have qx10 := kt3.cell 10; have qx11 := kt3.cell 11; have qx12 := kt3.cell 12; simp at qx0 qx1 qx2 qx3 qx4 qx5 qx6 qx7 qx8 qx9 qx10 qx11 qx12; have zx0 := kt3.frozen 0; have zx1 := kt3.frozen 1; have zx2 := kt3.frozen 2; have zx3 := kt3.frozen 3; have zx4 := kt3.frozen 4; have zx5 := kt3.frozen 5; have zx6 := kt3.frozen 6; have zx7 := kt3.frozen 7; have zx8 := kt3.frozen 8; have zx9 := kt3.frozen 9; have zx10 := kt3.frozen 10; have zx11 := kt3.frozen 11; have zx12 := kt3.frozen 12; have Hkt3 := Lib.hid kt3; clear kt3
          cases sh with
          | false =>
            have HX := Lib.hid (HNO.out (by rw [← HO.out]; simp [oneR]))
            go_wp2_with fail
            go_returns
            exact ⟨by rw [← HX.out]; first | done | rfl, by (repeat' (first | (with_reducible exact Below.refl _ _) | (with_reducible assumption) | (with_reducible refine balloc ?_ _) | (with_reducible refine Below.drew ?_) | (with_reducible refine bset ?_ ?_ _) | (with_reducible refine bstep ?_ (by with_reducible assumption)) | (with_reducible refine bturn ?_ (by with_reducible assumption) ?_) | go_size))⟩
          | true =>
            by_cases t1 : tk < 1
            · have HX := Lib.hid (HNO.out (by rw [← HO.out]; unfold oneR; rw [if_neg (by omega), decide_eq_false (by omega)]; simp))
              go_wp2_with fail
              go_returns
              exact ⟨by rw [← HX.out]; first | done | rfl, by (repeat' (first | (with_reducible exact Below.refl _ _) | (with_reducible assumption) | (with_reducible refine balloc ?_ _) | (with_reducible refine Below.drew ?_) | (with_reducible refine bset ?_ ?_ _) | (with_reducible refine bstep ?_ (by with_reducible assumption)) | (with_reducible refine bturn ?_ (by with_reducible assumption) ?_) | go_size))⟩
            by_cases t2 : 6 < tk
            · have HX := Lib.hid (HNO.out (by rw [← HO.out]; unfold oneR; rw [if_neg (by omega), decide_eq_false (show ¬ tk < 6 by omega)]; simp))
              go_wp2_with fail
              go_returns
              exact ⟨by rw [← HX.out]; first | done | rfl, by (repeat' (first | (with_reducible exact Below.refl _ _) | (with_reducible assumption) | (with_reducible refine balloc ?_ _) | (with_reducible refine Below.drew ?_) | (with_reducible refine bset ?_ ?_ _) | (with_reducible refine bstep ?_ (by with_reducible assumption)) | (with_reducible refine bturn ?_ (by with_reducible assumption) ?_) | go_size))⟩
            by_cases t3 : tk = 1
            · subst t3
              cases Z with
              | false =>
                have HX := Lib.hid (HNO.out (by rw [← HO.out]; unfold oneR; rw [if_neg (by omega)]; simp))
                go_wp2_with fail
                go_returns
                exact ⟨by rw [← HX.out]; first | done | rfl, by (repeat' (first | (with_reducible exact Below.refl _ _) | (with_reducible assumption) | (with_reducible refine balloc ?_ _) | (with_reducible refine Below.drew ?_) | (with_reducible refine bset ?_ ?_ _) | (with_reducible refine bstep ?_ (by with_reducible assumption)) | (with_reducible refine bturn ?_ (by with_reducible assumption) ?_) | go_size))⟩
              | true =>
                cases ol with
                | true =>
                  have HX := Lib.hid (HNO.out (by rw [← HO.out]; unfold oneR; rw [if_neg (by omega)]; simp))
                  go_wp2_with fail
                  go_returns
                  exact ⟨by rw [← HX.out]; first | done | rfl, by (repeat' (first | (with_reducible exact Below.refl _ _) | (with_reducible assumption) | (with_reducible refine balloc ?_ _) | (with_reducible refine Below.drew ?_) | (with_reducible refine bset ?_ ?_ _) | (with_reducible refine bstep ?_ (by with_reducible assumption)) | (with_reducible refine bturn ?_ (by with_reducible assumption) ?_) | go_size))⟩
                | false =>
                  cases oh with
                  | true =>
                    have HX := Lib.hid (HNO.out (by rw [← HO.out]; unfold oneR; rw [if_neg (by omega)]; simp))
                    go_wp2_with fail
                    go_returns
                    exact ⟨by rw [← HX.out]; first | done | rfl, by (repeat' (first | (with_reducible exact Below.refl _ _) | (with_reducible assumption) | (with_reducible refine balloc ?_ _) | (with_reducible refine Below.drew ?_) | (with_reducible refine bset ?_ ?_ _) | (with_reducible refine bstep ?_ (by with_reducible assumption)) | (with_reducible refine bturn ?_ (by with_reducible assumption) ?_) | go_size))⟩
                  | false =>
                    have HX := Lib.hid (HGO.out (by rw [← HO.out]; unfold oneR; rw [if_neg (by omega)]; simp))
                    go_wp2_with fail
                    go_roundw
                    case rel => exact ⟨k + 1, by omega, by go_num, by (repeat' (first | (with_reducible exact Below.refl _ _) | (with_reducible assumption) | (with_reducible refine balloc ?_ _) | (with_reducible refine Below.drew ?_) | (with_reducible refine bset ?_ ?_ _) | (with_reducible refine bstep ?_ (by with_reducible assumption)) | (with_reducible refine bturn ?_ (by with_reducible assumption) ?_) | go_size)), KB3.out, HX⟩
                    case measure => simp [intOf]; omega
            have t3b : (tk != 1) = true := by simpa using t3
            cases R with
            | false =>
              have HX := Lib.hid (HNO.out (by rw [← HO.out]; unfold oneR; split <;> simp; omega))
              go_wp2_with fail
              go_returns
              exact ⟨by rw [← HX.out]; first | done | rfl, by (repeat' (first | (with_reducible exact Below.refl _ _) | (with_reducible assumption) | (with_reducible refine balloc ?_ _) | (with_reducible refine Below.drew ?_) | (with_reducible refine bset ?_ ?_ _) | (with_reducible refine bstep ?_ (by with_reducible assumption)) | (with_reducible refine bturn ?_ (by with_reducible assumption) ?_) | go_size))⟩
            | true =>
              by_cases t6 : tk = 6
              · subst t6
                by_cases hkk : xk = lk
                · have hkb : (xk != lk) = false := by simpa using hkk
                  have HX := Lib.hid (HGO.out (by rw [← HO.out]; unfold oneR; rw [if_pos rfl]; simp [hkk]))
                  go_wp2_with fail
                  go_roundw
                  case rel => exact ⟨k + 1, by omega, by go_num, by (repeat' (first | (with_reducible exact Below.refl _ _) | (with_reducible assumption) | (with_reducible refine balloc ?_ _) | (with_reducible refine Below.drew ?_) | (with_reducible refine bset ?_ ?_ _) | (with_reducible refine bstep ?_ (by with_reducible assumption)) | (with_reducible refine bturn ?_ (by with_reducible assumption) ?_) | go_size)), KB3.out, HX⟩
                  case measure => simp [intOf]; omega
                · have hkb : (xk != lk) = true := by simpa using hkk
                  have HX := Lib.hid (HNO.out (by rw [← HO.out]; unfold oneR; rw [if_pos rfl]; simp [hkk]))
                  go_wp2_with fail
                  go_returns
                  exact ⟨by rw [← HX.out]; first | done | rfl, by (repeat' (first | (with_reducible exact Below.refl _ _) | (with_reducible assumption) | (with_reducible refine balloc ?_ _) | (with_reducible refine Below.drew ?_) | (with_reducible refine bset ?_ ?_ _) | (with_reducible refine bstep ?_ (by with_reducible assumption)) | (with_reducible refine bturn ?_ (by with_reducible assumption) ?_) | go_size))⟩
              · have t7 : ¬ tk < 1 := t1
                have HK := Lib.hid (show 1 ≤ tk ∧ tk < 6 from ⟨by omega, by omega⟩)
                cases Z with
                | false =>
                  have HX := Lib.hid (HNO.out (by rw [← HO.out]; unfold oneR; rw [if_neg (by omega), decide_eq_true HK.out.1, decide_eq_true HK.out.2]; simp))
                  go_wp2_with fail
                  go_returns
                  exact ⟨by rw [← HX.out]; first | done | rfl, by (repeat' (first | (with_reducible exact Below.refl _ _) | (with_reducible assumption) | (with_reducible refine balloc ?_ _) | (with_reducible refine Below.drew ?_) | (with_reducible refine bset ?_ ?_ _) | (with_reducible refine bstep ?_ (by with_reducible assumption)) | (with_reducible refine bturn ?_ (by with_reducible assumption) ?_) | go_size))⟩
                | true =>
                  cases ol with
                  | true =>
                    have HX := Lib.hid (HNO.out (by rw [← HO.out]; unfold oneR; rw [if_neg (by omega), decide_eq_true HK.out.1, decide_eq_true HK.out.2]; simp))
                    go_wp2_with fail
                    go_returns
                    exact ⟨by rw [← HX.out]; first | done | rfl, by (repeat' (first | (with_reducible exact Below.refl _ _) | (with_reducible assumption) | (with_reducible refine balloc ?_ _) | (with_reducible refine Below.drew ?_) | (with_reducible refine bset ?_ ?_ _) | (with_reducible refine bstep ?_ (by with_reducible assumption)) | (with_reducible refine bturn ?_ (by with_reducible assumption) ?_) | go_size))⟩
                  | false =>
                    cases oh with
                    | true =>
                      have HX := Lib.hid (HNO.out (by rw [← HO.out]; unfold oneR; rw [if_neg (by omega), decide_eq_true HK.out.1, decide_eq_true HK.out.2]; simp))
                      go_wp2_with fail
                      go_returns
                      exact ⟨by rw [← HX.out]; first | done | rfl, by (repeat' (first | (with_reducible exact Below.refl _ _) | (with_reducible assumption) | (with_reducible refine balloc ?_ _) | (with_reducible refine Below.drew ?_) | (with_reducible refine bset ?_ ?_ _) | (with_reducible refine bstep ?_ (by with_reducible assumption)) | (with_reducible refine bturn ?_ (by with_reducible assumption) ?_) | go_size))⟩
                    | false =>
                      have HX := Lib.hid (HGO.out (by rw [← HO.out]; unfold oneR; rw [if_neg (by omega), decide_eq_true HK.out.1, decide_eq_true HK.out.2]; simp))
                      go_wp2_with fail
                      go_roundw
                      case rel => exact ⟨k + 1, by omega, by go_num, by (repeat' (first | (with_reducible exact Below.refl _ _) | (with_reducible assumption) | (with_reducible refine balloc ?_ _) | (with_reducible refine Below.drew ?_) | (with_reducible refine bset ?_ ?_ _) | (with_reducible refine bstep ?_ (by with_reducible assumption)) | (with_reducible refine bturn ?_ (by with_reducible assumption) ?_) | go_size)), KB3.out, HX⟩
                      case measure => simp [intOf]; omega
    · obtain rfl : k = L.length := by omega
      have HX : Hid (true = b) := Lib.hid (by
        refine (HB.out.2 fun t ht => ?_).symm
        obtain ⟨j, hj⟩ := List.mem_iff_getElem?.1 ht
        exact HQ.out j t (List.getElem?_eq_some_iff.1 hj).1 hj)
      clear hlt
      have hlu := kb.lt; have hllu := lts hlu; have qu0 := kb.cell 0; have qu1 := kb.cell 1; have qu2 := kb.cell 2; simp at qu0 qu1 qu2; have zu0 := kb.frozen 0; have zu1 := kb.frozen 1; have zu2 := kb.frozen 2; have Hkb := Lib.hid kb; clear kb
      go_wp2_with fail
      go_returns
      exact ⟨by rw [← HX.out]; first | done | rfl, by (repeat' (first | (with_reducible exact Below.refl _ _) | (with_reducible assumption) | (with_reducible refine balloc ?_ _) | (with_reducible refine Below.drew ?_) | (with_reducible refine bset ?_ ?_ _) | (with_reducible refine bstep ?_ (by with_reducible assumption)) | (with_reducible refine bturn ?_ (by with_reducible assumption) ?_) | go_size))⟩
set_option maxHeartbeats 8000000 in
set_option maxRecDepth 100000 in
theorem rs9_any (no : Bool) (A : Option Addr) (n c : Nat) (w : World) :
    Calls Tryz.prog 26 #[.agg #[.bool true, .bool no, .slice A n c]] w fun e w' => e = .returned (.bool (!no && (n : Int) == 0)) ∧ Below w.heap.size w w' := by
  cases no
  all_goals
    go_enter Tryz.func26, Tryz.ntmps26
    go_wp2_with fail
    go_returns
    refine ⟨?_, by (repeat' (first | (with_reducible exact Below.refl _ _) | (with_reducible assumption) | (with_reducible refine balloc ?_ _) | (with_reducible refine Below.drew ?_) | (with_reducible refine bset ?_ ?_ _) | (with_reducible refine bstep ?_ (by with_reducible assumption)) | (with_reducible refine bturn ?_ (by with_reducible assumption) ?_) | go_size))⟩
    simp
set_option maxHeartbeats 8000000 in
set_option maxRecDepth 100000 in
theorem rs9_len (no : Bool) (A : Option Addr) (n c : Nat) (hn : n < 1 ∨ 8 < n) (w : World) :
    Calls Tryz.prog 26 #[.agg #[.bool false, .bool no, .slice A n c]] w fun e w' => e = .returned (.bool false) ∧ Below w.heap.size w w' := by
  rcases hn with hn | hn
  · have h1 : (n : Int) < 1 := by omega
    clear hn
    go_enter Tryz.func26, Tryz.ntmps26
    go_wp2_with fail
    go_returns
    exact ⟨rfl, by (repeat' (first | (with_reducible exact Below.refl _ _) | (with_reducible assumption) | (with_reducible refine balloc ?_ _) | (with_reducible refine Below.drew ?_) | (with_reducible refine bset ?_ ?_ _) | (with_reducible refine bstep ?_ (by with_reducible assumption)) | (with_reducible refine bturn ?_ (by with_reducible assumption) ?_) | go_size))⟩
  · have h1 : ¬ (n : Int) < 1 := by omega
    have h8 : (8 : Int) < (n : Int) := by omega
    clear hn
    go_enter Tryz.func26, Tryz.ntmps26
    go_wp2_with fail
    go_returns
    exact ⟨rfl, by (repeat' (first | (with_reducible exact Below.refl _ _) | (with_reducible assumption) | (with_reducible refine balloc ?_ _) | (with_reducible refine Below.drew ?_) | (with_reducible refine bset ?_ ?_ _) | (with_reducible refine bstep ?_ (by with_reducible assumption)) | (with_reducible refine bturn ?_ (by with_reducible assumption) ?_) | go_size))⟩
open Classical in
theorem rs9 (t : Tsts) (A : Option Addr) (c : Nat) (w : World) (hM : RM clT 13 w A t.l) (hok : ∀ u ∈ t.l, TOk u) :
    Calls Tryz.prog 26 #[.agg #[.bool t.any, .bool t.no, .slice A t.l.length c]] w fun e w' => e = .returned (.bool (decide (tsSound t))) ∧ Below w.heap.size w w' := by
  obtain ⟨any, no, L⟩ := t
  simp only at hM hok ⊢
  cases any with
  | true =>
    have h := rs9_any no A L.length c w
    have e : (!no && (L.length : Int) == 0) = decide (tsSound ⟨true, no, L⟩) := by
      rw [Bool.eq_iff_iff, decide_eq_true_iff]
      unfold tsSound
      rw [if_pos rfl, Bool.and_eq_true]
      refine and_congr (by simp) ?_
      rw [beq_iff_eq]
      constructor
      · intro h
        exact List.eq_nil_of_length_eq_zero (show L.length = 0 by omega)
      · intro h
        have h2 : L = [] := h
        rw [h2]
        rfl
    rw [e] at h
    exact h
  | false =>
    by_cases hn : L.length < 1 ∨ 8 < L.length
    · have h := rs9_len no A L.length c hn w
      have e : decide (tsSound ⟨false, no, L⟩) = false := decide_eq_false (by
        unfold tsSound
        rw [if_neg (by simp)]
        rintro ⟨h1, h2, _⟩
        simp only at h1 h2
        omega)
      rw [e]
      exact h
    · refine rs9_list no A L c (by omega) (by omega) (fun t => decide (tSound t)) (fun v => decide (vSound v)) w hM (Lib.hid fun t => oneR_eq t) (Lib.hid fun u hu => ⟨fun W => r4_any u.lo (hok u hu).lo W, fun W => r4_any u.hi (hok u hu).hi W⟩) _ ?_
      rw [decide_eq_true_iff]
      unfold tsSound
      rw [if_neg (by simp)]
      constructor
      · rintro ⟨_, _, h⟩ u hu
        exact decide_eq_true (h u hu)
      · intro h
        exact ⟨by show 1 ≤ L.length; omega, by show L.length ≤ 8; omega, fun u hu => of_decide_eq_true (h u hu)⟩
end Go.Proofs.YtkkeplmaphcblaaGreatDoor

namespace Go.Proofs.YtkkeplmaphcblaaGreatDoor
open Go.RowKit Go.Shelf

theorem run_tst_neq (w : World) (k lk ln ls lm xk xn xs xm : Int) (lq xq : ByteArray) (ol oh : Bool) :
    (binOp .neq 82 (.agg #[.int .i64 k, .int .i64 lk, .int .i64 ln, .int .i64 ls, .string lq, .int .i64 lm, .int .i64 xk, .int .i64 xn, .int .i64 xs, .string xq, .int .i64 xm, .bool ol, .bool oh]) (.agg #[.int .i64 k, .int .i64 lk, .int .i64 ln, .int .i64 ls, .string lq, .int .i64 lm, .int .i64 xk, .int .i64 xn, .int .i64 xs, .string xq, .int .i64 xm, .bool ol, .bool oh])).run Tryz.prog w
      = .ok (.bool false) w := by
  go_simp
attribute [local go_sem high] run_tst_neq

set_option maxHeartbeats 16000000 in
set_option maxRecDepth 100000 in
theorem same9_any (any no : Bool) (A B : Option Addr) (L : List Tst) (c d : Nat) (hl : L.length ≤ 1000) (w : World) (hA : RM clT 13 w A L) (hB : RM clT 13 w B L) :
    Calls Tryz.prog 28 #[.agg #[.bool any, .bool no, .slice A L.length c], .agg #[.bool any, .bool no, .slice B L.length d]] w fun e w' => e = .returned (.bool true) ∧ Below w.heap.size w w' := by
  have HA := Lib.hid hA
  have HB := Lib.hid hB
  have k0 : Blk ((w.alloc (.cells #[.bool any, .bool no, .slice A L.length c] 47)).alloc (.cells #[.bool any, .bool no, .slice B L.length d] 47)) w.heap.size 47 #[.bool any, .bool no, .slice A L.length c] := (Blk.new _ _ _).alloc _
  have k1 : Blk ((w.alloc (.cells #[.bool any, .bool no, .slice A L.length c] 47)).alloc (.cells #[.bool any, .bool no, .slice B L.length d] 47)) (w.heap.size + 1) 47 #[.bool any, .bool no, .slice B L.length d] := Blk.new' _ _ _ (by simp)
  have hna : (any != any) = false := by cases any <;> rfl
  have hnn : (no != no) = false := by cases no <;> rfl
  clear hA hB
  go_enter Tryz.func28, Tryz.ntmps28
  go_wp2_with fail
  go_loopw [5] (fun i wr => ∃ k : Nat, k ≤ L.length ∧ i = .int .i64 (k : Int) ∧ Below w.heap.size w wr ∧ Blk wr w.heap.size 47 #[.bool any, .bool no, .slice A L.length c] ∧ Blk wr (w.heap.size + 1) 47 #[.bool any, .bool no, .slice B L.length d]) (fun i _ => L.length - (intOf i).toNat)
  case atStart => exact ⟨0, by omega, rfl, by (repeat' (first | (with_reducible exact Below.refl _ _) | (with_reducible assumption) | (with_reducible refine balloc ?_ _) | (with_reducible refine Below.drew ?_) | (with_reducible refine bset ?_ ?_ _) | (with_reducible refine bstep ?_ (by with_reducible assumption)) | (with_reducible refine bturn ?_ (by with_reducible assumption) ?_) | go_size)), k0, k1⟩
  case round =>
    obtain ⟨k, hk, rfl, hbr, ka, kb⟩ := hrel
    have KA := Lib.hid ka
    have KB := Lib.hid kb
    by_cases hlt : k < L.length
    · obtain ⟨t, ht⟩ : ∃ t, L[k]? = some t := ⟨L[k], List.getElem?_eq_getElem hlt⟩
      have hki : (k : Int) < (L.length : Int) := by omega
      obtain ⟨g, o, rfl, HC⟩ := rmt_get HA.out ht
      obtain ⟨g2, o2, rfl, HD⟩ := rmt_get HB.out ht
      obtain ⟨tk, ⟨lk, ln, ls, lt, lm⟩, ⟨xk, xn, xs, xt, xm⟩, ol, oh⟩ := t
      simp only at HC HD
      obtain ⟨lq, hlq⟩ : ∃ q, bs lt = q := ⟨_, rfl⟩
      obtain ⟨xq, hhq⟩ : ∃ q, bs xt = q := ⟨_, rfl⟩
      rw [hlq, hhq] at HC HD
      obtain ⟨c0, c1, c2, c3, c4, c5, c6, c7, c8, c9, c10, c11, c12⟩ := HC
      obtain ⟨d0, d1, d2, d3, d4, d5, d6, d7, d8, d9, d10, d11, d12⟩ := HD
      replace c0 := keep1 hbr c0
      replace c1 := keep1 hbr c1
      replace c2 := keep1 hbr c2
      replace c3 := keep1 hbr c3
      replace c4 := keep1 hbr c4
      replace c5 := keep1 hbr c5
      replace c6 := keep1 hbr c6
      replace c7 := keep1 hbr c7
      replace c8 := keep1 hbr c8
      replace c9 := keep1 hbr c9
      replace c10 := keep1 hbr c10
      replace c11 := keep1 hbr c11
      replace c12 := keep1 hbr c12
      replace d0 := keep1 hbr d0
      replace d1 := keep1 hbr d1
      replace d2 := keep1 hbr d2
      replace d3 := keep1 hbr d3
      replace d4 := keep1 hbr d4
      replace d5 := keep1 hbr d5
      replace d6 := keep1 hbr d6
      replace d7 := keep1 hbr d7
      replace d8 := keep1 hbr d8
      replace d9 := keep1 hbr d9
      replace d10 := keep1 hbr d10
      replace d11 := keep1 hbr d11
      replace d12 := keep1 hbr d12
      clear ht hlt hlq hhq
      have hlu := ka.lt; have hllu := lts hlu; have qu0 := ka.cell 0; have qu1 := ka.cell 1; have qu2 := ka.cell 2; simp at qu0 qu1 qu2; have zu0 := ka.frozen 0; have zu1 := ka.frozen 1; have zu2 := ka.frozen 2; have Hka := Lib.hid ka; clear ka
      have hlv := kb.lt; have hllv := lts hlv; have qv0 := kb.cell 0; have qv1 := kb.cell 1; have qv2 := kb.cell 2; simp at qv0 qv1 qv2; have zv0 := kb.frozen 0; have zv1 := kb.frozen 1; have zv2 := kb.frozen 2; have Hkb := Lib.hid kb; clear kb
      go_wp2_with fail
      go_region
      all_goals
        have KA2 := KA.out.drew
        have KB2 := KB.out.drew
        go_wp2_with fail
        go_roundw
        case rel => exact ⟨k + 1, by omega, by go_num, by (repeat' (first | (with_reducible exact Below.refl _ _) | (with_reducible assumption) | (with_reducible refine balloc ?_ _) | (with_reducible refine Below.drew ?_) | (with_reducible refine bset ?_ ?_ _) | (with_reducible refine bstep ?_ (by with_reducible assumption)) | (with_reducible refine bturn ?_ (by with_reducible assumption) ?_) | go_size)), KA2, KB2⟩
        case measure => simp [intOf]; omega
    · obtain rfl : k = L.length := by omega
      clear hlt
      have hlu := ka.lt; have hllu := lts hlu; have qu0 := ka.cell 0; have qu1 := ka.cell 1; have qu2 := ka.cell 2; simp at qu0 qu1 qu2; have zu0 := ka.frozen 0; have zu1 := ka.frozen 1; have zu2 := ka.frozen 2; have Hka := Lib.hid ka; clear ka
      have hlv := kb.lt; have hllv := lts hlv; have qv0 := kb.cell 0; have qv1 := kb.cell 1; have qv2 := kb.cell 2; simp at qv0 qv1 qv2; have zv0 := kb.frozen 0; have zv1 := kb.frozen 1; have zv2 := kb.frozen 2; have Hkb := Lib.hid kb; clear kb
      go_wp2_with fail
      go_returns
      exact ⟨rfl, by (repeat' (first | (with_reducible exact Below.refl _ _) | (with_reducible assumption) | (with_reducible refine balloc ?_ _) | (with_reducible refine Below.drew ?_) | (with_reducible refine bset ?_ ?_ _) | (with_reducible refine bstep ?_ (by with_reducible assumption)) | (with_reducible refine bturn ?_ (by with_reducible assumption) ?_) | go_size))⟩
end Go.Proofs.YtkkeplmaphcblaaGreatDoor

namespace Go.Proofs.YtkkeplmaphcblaaGreatDoor
open Go.RowKit Go.Shelf

def aw1 : Bs := [110, 111, 116, 40, 32, 60, 32, 53, 44, 32, 91, 49, 46, 46, 50, 41, 44, 32, 45, 51, 44, 32, 34, 120, 34, 32, 41]
def aw2 : Bs := [110, 111, 116, 40, 60, 32, 53, 44, 32, 91, 49, 46, 46, 50, 41, 44, 32, 45, 51, 44, 32, 34, 120, 34, 41]
def aw9 : Tsts := ⟨false, true, [⟨2, ⟨1, 5, 0, [], 0⟩, zeroV, false, false⟩, ⟨6, ⟨1, 1, 0, [], 0⟩, ⟨1, 2, 0, [], 0⟩, false, true⟩, ⟨1, ⟨1, -3, 0, [], 0⟩, zeroV, false, false⟩, ⟨1, ⟨2, 0, 0, [120], 0⟩, zeroV, false, false⟩]⟩
theorem aw9_vs : ∀ u ∈ aw9.l, tSound u := by
  have n5 : vSound ⟨1, 5, 0, [], 0⟩ := .inr (.inl ⟨rfl, by decide +kernel, rfl, rfl⟩)
  have n1 : vSound ⟨1, 1, 0, [], 0⟩ := .inr (.inl ⟨rfl, by decide +kernel, rfl, rfl⟩)
  have n2 : vSound ⟨1, 2, 0, [], 0⟩ := .inr (.inl ⟨rfl, by decide +kernel, rfl, rfl⟩)
  have n3 : vSound ⟨1, -3, 0, [], 0⟩ := .inr (.inl ⟨rfl, by decide +kernel, rfl, rfl⟩)
  have nx : vSound ⟨2, 0, 0, [120], 0⟩ := .inr (.inr (.inl ⟨rfl, rfl, rfl, rfl, by decide, by decide +kernel⟩))
  intro u hu
  simp only [aw9, List.mem_cons, List.not_mem_nil, or_false] at hu
  rcases hu with rfl | rfl | rfl | rfl
  · exact ⟨n5, zero_vs, .inr ⟨.inr ⟨.inl rfl, .inl rfl⟩, rfl, rfl, rfl⟩⟩
  · exact ⟨n1, n2, .inl ⟨rfl, .inl rfl, rfl⟩⟩
  · exact ⟨n3, zero_vs, .inr ⟨.inl rfl, rfl, rfl, rfl⟩⟩
  · exact ⟨nx, zero_vs, .inr ⟨.inl rfl, rfl, rfl, rfl⟩⟩
theorem aw9_ts : tsSound aw9 := by
  unfold tsSound
  rw [if_neg (by decide)]
  exact ⟨by decide, by decide, aw9_vs⟩
theorem aw9_txt : utxt aw9 = aw2 := by kernel_rfl
theorem ltxt_aw9 : ltxt aw9.l = [60, 32, 53, 44, 32, 91, 49, 46, 46, 50, 41, 44, 32, 45, 51, 44, 32, 34, 120, 34] := by kernel_rfl
theorem tok_tst {t : Tst} (h : tSound t) : TOk t := by
  obtain ⟨h1, h2, h3⟩ := h
  refine ⟨?_, vs_ok h1, vs_ok h2⟩
  rcases h3 with ⟨h, _⟩ | ⟨h | ⟨h | h | h | h, _⟩, _⟩ <;> rw [h] <;> exact ⟨by decide, by decide⟩
/-- A text with the tokens of sound tests is read as those. -/
theorem read_of {m : Int} {l : Bs} {t : Tsts} (ht : tsSound t) (ha : ¬ t.any = true) (hr : Reads (lxX m) l (utoks t)) (hl : l.length ≤ 65536) (hA : isAny l = false) : unaryS (lxX m) l = (t, 0, 0) := by
  obtain ⟨T', h1, h2⟩ := hr 0 []
  unfold tsSound at ht
  rw [if_neg ha] at ht
  have hT : toksS (lxX m) l = ⟨T', 0, 0⟩ := by
    unfold toksS
    rw [if_neg (by omega)]
    exact h1
  unfold unaryS
  rw [hA, hT]
  have hon : On (newP ⟨T', 0, 0⟩ l.length) (utoks t) := ⟨rfl, Nat.zero_le _, h2⟩
  show readT _ = _
  obtain ⟨any, no, L⟩ := t
  simp only [Bool.not_eq_true] at ha ht
  subst ha
  cases no with
  | true =>
    have h : On (newP ⟨T', 0, 0⟩ l.length) (nm notB :: sg [40] :: (ltoks L ++ [sg [41]])) := hon
    have hi : (newP ⟨T', 0, 0⟩ l.length).isS notB = true := by rw [h.is_]; rfl
    obtain ⟨n1, n2⟩ := h.adv.need
    obtain ⟨g1, g2⟩ := tests_on ht.1 ht.2.1 ht.2.2 (fun q hq => by rw [hq.is_]; rfl) n2
    obtain ⟨k1, k2⟩ := g2.need
    unfold readT
    rw [if_pos hi, n1, g1, k1]
    exact out_on k2
  | false =>
    have h : On (newP ⟨T', 0, 0⟩ l.length) (ltoks L ++ []) := by rw [List.append_nil]; exact hon
    obtain ⟨g1, g2⟩ := tests_on ht.1 ht.2.1 ht.2.2 (fun q hq => hq.is_nil _) h
    have hi : (newP ⟨T', 0, 0⟩ l.length).isS notB = false := by
      cases L with
      | nil => have := ht.1; simp at this
      | cons t r =>
        rw [ltoks_cons, List.append_assoc] at h
        exact head_not (ht.2.2 t (List.mem_cons_self ..)) h
    unfold readT
    rw [hi]
    simp only [Bool.false_eq_true, if_false]
    rw [g1]
    exact out_on g2
theorem aw_read (m : Int) (w : World) (hw : OKW m w) : unaryS (lxX m) aw1 = (aw9, 0, 0) := by
  refine read_of aw9_ts (by decide) ?_ (by decide) (by decide)
  have h : Reads (lxX m) (notB ++ 40 :: 32 :: (ltxt aw9.l ++ 32 :: 41 :: [])) (nm notB :: sg [40] :: (ltoks aw9.l ++ [sg [41]])) := by
    refine reads_tok (o := notB) (t := nm notB) rfl rfl (stop_of rfl (by decide) (by decide)) (reads_open (reads_blank ?_))
    exact reads_list m w hw aw9.l aw9_vs (stop32 _) (reads_blank (reads_close (reads_nil _)))
  rw [ltxt_aw9] at h
  exact h
set_option maxHeartbeats 8000000 in
set_option maxRecDepth 100000 in
theorem aw_walk (w : World)
    (KP : Hid (∀ W, Below w.heap.size w W → Calls Tryz.prog 27 #[.string ⟨#[110, 111, 116, 40, 32, 60, 32, 53, 44, 32, 91, 49, 46, 46, 50, 41, 44, 32, 45, 51, 44, 32, 34, 120, 34, 32, 41]⟩] W fun e w' => (∃ A c, e = .returned (.tuple #[.agg #[.bool false, .bool true, .slice A 4 c], .int .i64 0, .int .i64 0]) ∧ RM clT 13 w' A aw9.l) ∧ Below W.heap.size W w'))
    (KX : Hid (∀ A c W, Below w.heap.size w W → RM clT 13 W A aw9.l → Calls Tryz.prog 24 #[.agg #[.bool false, .bool true, .slice A 4 c]] W fun e w' => e = .returned (.tuple #[.string ⟨#[110, 111, 116, 40, 60, 32, 53, 44, 32, 91, 49, 46, 46, 50, 41, 44, 32, 45, 51, 44, 32, 34, 120, 34, 41]⟩, .int .i64 0]) ∧ Below W.heap.size W w')) :
    Calls Tryz.prog 25 #[] w fun e w' => e = .returned (.bool true) ∧ Below w.heap.size w w' := by
  go_enter Tryz.func25, Tryz.ntmps25
  go_wp2_with fail
  refine (KP.out _ (by (repeat' (first | (with_reducible exact Below.refl _ _) | (with_reducible assumption) | (with_reducible refine balloc ?_ _) | (with_reducible refine Below.drew ?_) | (with_reducible refine bset ?_ ?_ _) | (with_reducible refine bstep ?_ (by with_reducible assumption)) | (with_reducible refine bturn ?_ (by with_reducible assumption) ?_) | go_size)))).mono ?_
  rintro e w1 ⟨⟨A, c, rfl, hA⟩, hb1⟩
  have HA := Lib.hid hA
  have k1 : Blk (w1.alloc (.cells #[.bool false, .bool true, .slice A 4 c] 47)) w1.heap.size 47 #[.bool false, .bool true, .slice A 4 c] := Blk.new _ _ _
  clear hA
  go_wp2_with fail
  refine (KX.out A c _ (by (repeat' (first | (with_reducible exact Below.refl _ _) | (with_reducible assumption) | (with_reducible refine balloc ?_ _) | (with_reducible refine Below.drew ?_) | (with_reducible refine bset ?_ ?_ _) | (with_reducible refine bstep ?_ (by with_reducible assumption)) | (with_reducible refine bturn ?_ (by with_reducible assumption) ?_) | go_size))) (HA.out.step (by (repeat' (first | (with_reducible exact Below.refl _ _) | (with_reducible assumption) | (with_reducible refine balloc ?_ _) | (with_reducible refine Below.drew ?_) | (with_reducible refine bset ?_ ?_ _) | (with_reducible refine bstep ?_ (by with_reducible assumption)) | (with_reducible refine bturn ?_ (by with_reducible assumption) ?_) | go_size))))).mono ?_
  rintro e w2 ⟨rfl, hb2⟩
  have k2 := k1.step hb2
  have hb02 : Below w.heap.size w w2 := by (repeat' (first | (with_reducible exact Below.refl _ _) | (with_reducible assumption) | (with_reducible refine balloc ?_ _) | (with_reducible refine Below.drew ?_) | (with_reducible refine bset ?_ ?_ _) | (with_reducible refine bstep ?_ (by with_reducible assumption)) | (with_reducible refine bturn ?_ (by with_reducible assumption) ?_) | go_size))
  clear k1 hb1 hb2
  have hlu := k2.lt; have hllu := lts hlu; have qu0 := k2.cell 0; have qu1 := k2.cell 1; have qu2 := k2.cell 2; simp at qu0 qu1 qu2; have zu0 := k2.frozen 0; have zu1 := k2.frozen 1; have zu2 := k2.frozen 2; have Hk2 := Lib.hid k2; clear k2
  go_wp2_with fail
  go_returns
  exact ⟨by first | rfl | simp, by (repeat' (first | (with_reducible exact Below.refl _ _) | (with_reducible assumption) | (with_reducible refine balloc ?_ _) | (with_reducible refine Below.drew ?_) | (with_reducible refine bset ?_ ?_ _) | (with_reducible refine bstep ?_ (by with_reducible assumption)) | (with_reducible refine bturn ?_ (by with_reducible assumption) ?_) | go_size))⟩
theorem awake9 (hTA : Hid TestAny) (m : Int) (w : World) (hw : OKW m w) :
    Calls Tryz.prog 25 #[] w fun e w' => e = .returned (.bool true) ∧ Below w.heap.size w w' := by
  refine aw_walk w (Lib.hid fun W hb => ?_) (Lib.hid fun A c W hb hA => ?_)
  · have h := uparse_any hTA m (bs aw1) (by decide) W (hw.step hb)
    have e : (bs aw1).data.toList = aw1 := rfl
    rw [e, aw_read m W (hw.step hb)] at h
    refine h.mono ?_
    rintro e w' ⟨⟨A, c, rfl, hM, _⟩, hb'⟩
    exact ⟨⟨A, c, rfl, hM⟩, hb'⟩
  · have h := utext_any aw9 A c m W (hw.step hb) hA (fun u hu => tok_tst (aw9_vs u hu))
    have e : utx aw9 = (aw2, 0) := by unfold utx; rw [if_pos aw9_ts, aw9_txt]
    rw [e] at h
    exact h

set_option maxHeartbeats 8000000 in
set_option maxRecDepth 100000 in
theorem ub_bad (any no : Bool) (A : Option Addr) (n c : Nat) (w : World) (HW : Hid (∀ W, Below w.heap.size w W → Calls Tryz.prog 25 #[] W fun e w' => e = .returned (.bool true) ∧ Below W.heap.size W w'))
    (HT : Hid (∀ W, Below w.heap.size w W → Calls Tryz.prog 24 #[.agg #[.bool any, .bool no, .slice A n c]] W fun e w' => e = .returned (.tuple #[.string ⟨#[]⟩, .int .i64 2]) ∧ Below W.heap.size W w'))
    (HS : Hid (∀ W, Below w.heap.size w W → Calls Tryz.prog 26 #[.agg #[.bool any, .bool no, .slice A n c]] W fun e w' => e = .returned (.bool false) ∧ Below W.heap.size W w')) :
    Calls Tryz.prog 5 #[.agg #[.bool any, .bool no, .slice A n c]] w fun e w' => e = .returned (.bool true) ∧ Below w.heap.size w w' := by
  have k0 : Blk (w.alloc (.cells #[.bool any, .bool no, .slice A n c] 47)) w.heap.size 47 #[.bool any, .bool no, .slice A n c] := Blk.new _ _ _
  go_enter Tryz.func5, Tryz.ntmps5
  go_wp2_with fail
  refine (HT.out _ (by (repeat' (first | (with_reducible exact Below.refl _ _) | (with_reducible assumption) | (with_reducible refine balloc ?_ _) | (with_reducible refine Below.drew ?_) | (with_reducible refine bset ?_ ?_ _) | (with_reducible refine bstep ?_ (by with_reducible assumption)) | (with_reducible refine bturn ?_ (by with_reducible assumption) ?_) | go_size)))).mono ?_
  rintro e w1 ⟨rfl, hb1⟩
  go_wp2_with fail
  refine (HW.out _ (by (repeat' (first | (with_reducible exact Below.refl _ _) | (with_reducible assumption) | (with_reducible refine balloc ?_ _) | (with_reducible refine Below.drew ?_) | (with_reducible refine bset ?_ ?_ _) | (with_reducible refine bstep ?_ (by with_reducible assumption)) | (with_reducible refine bturn ?_ (by with_reducible assumption) ?_) | go_size)))).mono ?_
  rintro e w2 ⟨rfl, hb2⟩
  go_wp2_with fail
  refine (HW.out _ (by (repeat' (first | (with_reducible exact Below.refl _ _) | (with_reducible assumption) | (with_reducible refine balloc ?_ _) | (with_reducible refine Below.drew ?_) | (with_reducible refine bset ?_ ?_ _) | (with_reducible refine bstep ?_ (by with_reducible assumption)) | (with_reducible refine bturn ?_ (by with_reducible assumption) ?_) | go_size)))).mono ?_
  rintro e w3 ⟨rfl, hb3⟩
  have k3 := ((k0.step hb1).step hb2).step hb3
  have hb03 : Below w.heap.size w w3 := by (repeat' (first | (with_reducible exact Below.refl _ _) | (with_reducible assumption) | (with_reducible refine balloc ?_ _) | (with_reducible refine Below.drew ?_) | (with_reducible refine bset ?_ ?_ _) | (with_reducible refine bstep ?_ (by with_reducible assumption)) | (with_reducible refine bturn ?_ (by with_reducible assumption) ?_) | go_size))
  clear k0 hb1 hb2 hb3
  have hlu := k3.lt; have hllu := lts hlu; have qu0 := k3.cell 0; have qu1 := k3.cell 1; have qu2 := k3.cell 2; simp at qu0 qu1 qu2; have zu0 := k3.frozen 0; have zu1 := k3.frozen 1; have zu2 := k3.frozen 2; have Hk3 := Lib.hid k3; clear k3
  go_wp2_with fail
  refine (HS.out _ (by (repeat' (first | (with_reducible exact Below.refl _ _) | (with_reducible assumption) | (with_reducible refine balloc ?_ _) | (with_reducible refine Below.drew ?_) | (with_reducible refine bset ?_ ?_ _) | (with_reducible refine bstep ?_ (by with_reducible assumption)) | (with_reducible refine bturn ?_ (by with_reducible assumption) ?_) | go_size)))).mono ?_
  rintro e w4 ⟨rfl, hb4⟩
  go_wp2_with fail
  go_returns
  exact ⟨by first | rfl | simp, by (repeat' (first | (with_reducible exact Below.refl _ _) | (with_reducible assumption) | (with_reducible refine balloc ?_ _) | (with_reducible refine Below.drew ?_) | (with_reducible refine bset ?_ ?_ _) | (with_reducible refine bstep ?_ (by with_reducible assumption)) | (with_reducible refine bturn ?_ (by with_reducible assumption) ?_) | go_size))⟩
set_option maxHeartbeats 8000000 in
set_option maxRecDepth 100000 in
theorem ub_good (any no : Bool) (A : Option Addr) (L : List Tst) (c : Nat) (S : ByteArray) (w : World) (HW : Hid (∀ W, Below w.heap.size w W → Calls Tryz.prog 25 #[] W fun e w' => e = .returned (.bool true) ∧ Below W.heap.size W w'))
    (HT : Hid (∀ W, Below w.heap.size w W → Calls Tryz.prog 24 #[.agg #[.bool any, .bool no, .slice A L.length c]] W fun e w' => e = .returned (.tuple #[.string S, .int .i64 0]) ∧ Below W.heap.size W w'))
    (HP : Hid (∀ W, Below w.heap.size w W → Calls Tryz.prog 27 #[.string S] W fun e w' => (∃ B d, e = .returned (.tuple #[.agg #[.bool any, .bool no, .slice B L.length d], .int .i64 0, .int .i64 0]) ∧ RM clT 13 w' B L) ∧ Below W.heap.size W w'))
    (HS : Hid (∀ B d W, Below w.heap.size w W → RM clT 13 W B L → Calls Tryz.prog 28 #[.agg #[.bool any, .bool no, .slice A L.length c], .agg #[.bool any, .bool no, .slice B L.length d]] W fun e w' => e = .returned (.bool true) ∧ Below W.heap.size W w')) :
    Calls Tryz.prog 5 #[.agg #[.bool any, .bool no, .slice A L.length c]] w fun e w' => e = .returned (.bool true) ∧ Below w.heap.size w w' := by
  have k0 : Blk (w.alloc (.cells #[.bool any, .bool no, .slice A L.length c] 47)) w.heap.size 47 #[.bool any, .bool no, .slice A L.length c] := Blk.new _ _ _
  go_enter Tryz.func5, Tryz.ntmps5
  go_wp2_with fail
  refine (HT.out _ (by (repeat' (first | (with_reducible exact Below.refl _ _) | (with_reducible assumption) | (with_reducible refine balloc ?_ _) | (with_reducible refine Below.drew ?_) | (with_reducible refine bset ?_ ?_ _) | (with_reducible refine bstep ?_ (by with_reducible assumption)) | (with_reducible refine bturn ?_ (by with_reducible assumption) ?_) | go_size)))).mono ?_
  rintro e w1 ⟨rfl, hb1⟩
  go_wp2_with fail
  refine (HW.out _ (by (repeat' (first | (with_reducible exact Below.refl _ _) | (with_reducible assumption) | (with_reducible refine balloc ?_ _) | (with_reducible refine Below.drew ?_) | (with_reducible refine bset ?_ ?_ _) | (with_reducible refine bstep ?_ (by with_reducible assumption)) | (with_reducible refine bturn ?_ (by with_reducible assumption) ?_) | go_size)))).mono ?_
  rintro e w2 ⟨rfl, hb2⟩
  have k2 := (k0.step hb1).step hb2
  have hb02 : Below w.heap.size w w2 := by (repeat' (first | (with_reducible exact Below.refl _ _) | (with_reducible assumption) | (with_reducible refine balloc ?_ _) | (with_reducible refine Below.drew ?_) | (with_reducible refine bset ?_ ?_ _) | (with_reducible refine bstep ?_ (by with_reducible assumption)) | (with_reducible refine bturn ?_ (by with_reducible assumption) ?_) | go_size))
  clear k0 hb1 hb2
  go_wp2_with fail
  refine (HP.out _ (by (repeat' (first | (with_reducible exact Below.refl _ _) | (with_reducible assumption) | (with_reducible refine balloc ?_ _) | (with_reducible refine Below.drew ?_) | (with_reducible refine bset ?_ ?_ _) | (with_reducible refine bstep ?_ (by with_reducible assumption)) | (with_reducible refine bturn ?_ (by with_reducible assumption) ?_) | go_size)))).mono ?_
  rintro e w3 ⟨⟨B, d, rfl, hB⟩, hb3⟩
  have k3 := k2.step hb3
  have hb03 : Below w.heap.size w w3 := by (repeat' (first | (with_reducible exact Below.refl _ _) | (with_reducible assumption) | (with_reducible refine balloc ?_ _) | (with_reducible refine Below.drew ?_) | (with_reducible refine bset ?_ ?_ _) | (with_reducible refine bstep ?_ (by with_reducible assumption)) | (with_reducible refine bturn ?_ (by with_reducible assumption) ?_) | go_size))
  have HB := Lib.hid hB
  have hz3 := hb03.size
  have hl3 := k3.lt
  clear hB k2 hb02 hb3
  have kt : Blk (w3.alloc (.cells #[.bool any, .bool no, .slice B L.length d] 47)) w3.heap.size 47 #[.bool any, .bool no, .slice B L.length d] := Blk.new _ _ _
  have hlu := k3.lt; have hllu := lts hlu; have qu0 := k3.cell 0; have qu1 := k3.cell 1; have qu2 := k3.cell 2; simp at qu0 qu1 qu2; have zu0 := k3.frozen 0; have zu1 := k3.frozen 1; have zu2 := k3.frozen 2; have Hk3 := Lib.hid k3; clear k3
  go_wp2_with fail
  refine (HS.out B d _ (by (repeat' (first | (with_reducible exact Below.refl _ _) | (with_reducible assumption) | (with_reducible refine balloc ?_ _) | (with_reducible refine Below.drew ?_) | (with_reducible refine bset ?_ ?_ _) | (with_reducible refine bstep ?_ (by with_reducible assumption)) | (with_reducible refine bturn ?_ (by with_reducible assumption) ?_) | go_size))) (HB.out.step (by (repeat' (first | (with_reducible exact Below.refl _ _) | (with_reducible assumption) | (with_reducible refine balloc ?_ _) | (with_reducible refine Below.drew ?_) | (with_reducible refine bset ?_ ?_ _) | (with_reducible refine bstep ?_ (by with_reducible assumption)) | (with_reducible refine bturn ?_ (by with_reducible assumption) ?_) | go_size))))).mono ?_
  rintro e w4 ⟨rfl, hb4⟩
  go_wp2_with fail
  go_returns
  exact ⟨by first | rfl | simp, by (repeat' (first | (with_reducible exact Below.refl _ _) | (with_reducible assumption) | (with_reducible refine balloc ?_ _) | (with_reducible refine Below.drew ?_) | (with_reducible refine bset ?_ ?_ _) | (with_reducible refine bstep ?_ (by with_reducible assumption)) | (with_reducible refine bturn ?_ (by with_reducible assumption) ?_) | go_size))⟩
open Classical in
theorem uback_any (hTA : Hid TestAny) (t : Tsts) (A : Option Addr) (c : Nat) (m : Int) (w : World) (hw : OKW m w) (hM : RM clT 13 w A t.l) (hok : ∀ u ∈ t.l, TOk u) :
    Calls Tryz.prog 5 #[.agg #[.bool t.any, .bool t.no, .slice A t.l.length c]] w fun e w' => e = .returned (.bool true) ∧ Below w.heap.size w w' := by
  have HW := Lib.hid fun W (h : Below w.heap.size w W) => awake9 hTA m W (hw.step h)
  have HT := fun W (h : Below w.heap.size w W) => utext_any t A c m W (hw.step h) (hM.step h) hok
  by_cases hs : tsSound t
  · have e : utx t = (utxt t, 0) := by unfold utx; rw [if_pos hs]
    rw [e] at HT
    have hl := utxt_len hs
    have hl8 : t.l.length ≤ 1000 := by
      have h := hs
      unfold tsSound at h
      split at h
      · rw [h.2]; simp
      · omega
    refine ub_good t.any t.no A t.l c (bs (utxt t)) w HW (Lib.hid HT) (Lib.hid fun W hb => ?_) (Lib.hid fun B d W hb hB => same9_any t.any t.no A B t.l c d hl8 W (hM.step hb) hB)
    have h := uparse_any hTA m (bs (utxt t)) (by rw [bs_size]; omega) W (hw.step hb)
    have e2 : (bs (utxt t)).data.toList = utxt t := rfl
    rw [e2, back_plain m W (hw.step hb) t hs] at h
    refine h.mono ?_
    rintro e w' ⟨⟨B, d, rfl, hB, _⟩, hb'⟩
    exact ⟨⟨B, d, rfl, hB⟩, hb'⟩
  · have e : utx t = ([], 2) := by unfold utx; rw [if_neg hs]
    rw [e] at HT
    refine ub_bad t.any t.no A t.l.length c w HW (Lib.hid HT) (Lib.hid fun W hb => ?_)
    have h := rs9 t A c W (hM.step hb) hok
    rw [decide_eq_false hs] at h
    exact h
end Go.Proofs.YtkkeplmaphcblaaGreatDoor

namespace Go.Proofs.YtkkeplmaphcblaaGreatDoor
open Go.RowKit Go.Shelf

set_option maxHeartbeats 8000000 in
set_option maxRecDepth 100000 in
theorem uo_bad (s : ByteArray) (any no : Bool) (n : Nat) (a e : Int) (he : ¬ e = 0) (ha0 : 0 ≤ a) (ha1 : a ≤ (s.size : Int)) (w : World)
    (HW : Hid (∀ W, Below w.heap.size w W → Calls Tryz.prog 25 #[] W fun e w' => e = .returned (.bool true) ∧ Below W.heap.size W w'))
    (HP : Hid (∀ W, Below w.heap.size w W → Calls Tryz.prog 27 #[.string s] W fun x w' => (∃ A c, x = .returned (.tuple #[.agg #[.bool any, .bool no, .slice A n c], .int .i64 a, .int .i64 e])) ∧ Below W.heap.size W w')) :
    Calls Tryz.prog 6 #[.string s] w fun e w' => e = .returned (.bool true) ∧ Below w.heap.size w w' := by
  have heb : (e != 0) = true := by simpa using he
  go_enter Tryz.func6, Tryz.ntmps6
  go_wp2_with fail
  refine (HP.out _ (by (repeat' (first | (with_reducible exact Below.refl _ _) | (with_reducible assumption) | (with_reducible refine balloc ?_ _) | (with_reducible refine Below.drew ?_) | (with_reducible refine bset ?_ ?_ _) | (with_reducible refine bstep ?_ (by with_reducible assumption)) | (with_reducible refine bturn ?_ (by with_reducible assumption) ?_) | go_size)))).mono ?_
  rintro x w1 ⟨⟨A, c, rfl⟩, hb1⟩
  go_wp2_with fail
  refine (HW.out _ (by (repeat' (first | (with_reducible exact Below.refl _ _) | (with_reducible assumption) | (with_reducible refine balloc ?_ _) | (with_reducible refine Below.drew ?_) | (with_reducible refine bset ?_ ?_ _) | (with_reducible refine bstep ?_ (by with_reducible assumption)) | (with_reducible refine bturn ?_ (by with_reducible assumption) ?_) | go_size)))).mono ?_
  rintro _ w2 ⟨rfl, hb2⟩
  go_wp2_with fail
  refine (HW.out _ (by (repeat' (first | (with_reducible exact Below.refl _ _) | (with_reducible assumption) | (with_reducible refine balloc ?_ _) | (with_reducible refine Below.drew ?_) | (with_reducible refine bset ?_ ?_ _) | (with_reducible refine bstep ?_ (by with_reducible assumption)) | (with_reducible refine bturn ?_ (by with_reducible assumption) ?_) | go_size)))).mono ?_
  rintro _ w3 ⟨rfl, hb3⟩
  go_wp2_with fail
  go_returns
  exact ⟨by first | rfl | simp, by (repeat' (first | (with_reducible exact Below.refl _ _) | (with_reducible assumption) | (with_reducible refine balloc ?_ _) | (with_reducible refine Below.drew ?_) | (with_reducible refine bset ?_ ?_ _) | (with_reducible refine bstep ?_ (by with_reducible assumption)) | (with_reducible refine bturn ?_ (by with_reducible assumption) ?_) | go_size))⟩
set_option maxHeartbeats 8000000 in
set_option maxRecDepth 100000 in
theorem uo_good (s : ByteArray) (any no : Bool) (L : List Tst) (S : ByteArray) (w : World)
    (HW : Hid (∀ W, Below w.heap.size w W → Calls Tryz.prog 25 #[] W fun e w' => e = .returned (.bool true) ∧ Below W.heap.size W w'))
    (HP : Hid (∀ W, Below w.heap.size w W → Calls Tryz.prog 27 #[.string s] W fun x w' => (∃ A c, x = .returned (.tuple #[.agg #[.bool any, .bool no, .slice A L.length c], .int .i64 0, .int .i64 0]) ∧ RM clT 13 w' A L) ∧ Below W.heap.size W w'))
    (HT : Hid (∀ A c W, Below w.heap.size w W → RM clT 13 W A L → Calls Tryz.prog 24 #[.agg #[.bool any, .bool no, .slice A L.length c]] W fun e w' => e = .returned (.tuple #[.string S, .int .i64 0]) ∧ Below W.heap.size W w'))
    (HU : Hid (∀ A c W, Below w.heap.size w W → RM clT 13 W A L → Calls Tryz.prog 29 #[.agg #[.bool any, .bool no, .slice A L.length c]] W fun e w' => e = .returned (.bool true) ∧ Below W.heap.size W w'))
    (HQ : Hid (∀ W, Below w.heap.size w W → Calls Tryz.prog 27 #[.string S] W fun x w' => (∃ A c, x = .returned (.tuple #[.agg #[.bool any, .bool no, .slice A L.length c], .int .i64 0, .int .i64 0]) ∧ RM clT 13 w' A L) ∧ Below W.heap.size W w'))
    (HS : Hid (∀ A c B d W, RM clT 13 W A L → RM clT 13 W B L → Calls Tryz.prog 28 #[.agg #[.bool any, .bool no, .slice A L.length c], .agg #[.bool any, .bool no, .slice B L.length d]] W fun e w' => e = .returned (.bool true) ∧ Below W.heap.size W w')) :
    Calls Tryz.prog 6 #[.string s] w fun e w' => e = .returned (.bool true) ∧ Below w.heap.size w w' := by
  go_enter Tryz.func6, Tryz.ntmps6
  go_wp2_with fail
  refine (HP.out _ (by (repeat' (first | (with_reducible exact Below.refl _ _) | (with_reducible assumption) | (with_reducible refine balloc ?_ _) | (with_reducible refine Below.drew ?_) | (with_reducible refine bset ?_ ?_ _) | (with_reducible refine bstep ?_ (by with_reducible assumption)) | (with_reducible refine bturn ?_ (by with_reducible assumption) ?_) | go_size)))).mono ?_
  rintro x w1 ⟨⟨A, c, rfl, hA⟩, hb1⟩
  have HA := Lib.hid hA
  have hz1 := hb1.size
  have k1 : Blk (w1.alloc (.cells #[.bool any, .bool no, .slice A L.length c] 47)) w1.heap.size 47 #[.bool any, .bool no, .slice A L.length c] := Blk.new _ _ _
  clear hA
  go_wp2_with fail
  refine (HW.out _ (by (repeat' (first | (with_reducible exact Below.refl _ _) | (with_reducible assumption) | (with_reducible refine balloc ?_ _) | (with_reducible refine Below.drew ?_) | (with_reducible refine bset ?_ ?_ _) | (with_reducible refine bstep ?_ (by with_reducible assumption)) | (with_reducible refine bturn ?_ (by with_reducible assumption) ?_) | go_size)))).mono ?_
  rintro _ w2 ⟨rfl, hb2⟩
  have k2 := k1.step hb2
  have HA2 : Hid (RM clT 13 w2 A L) := Lib.hid ((HA.out.step (by (repeat' (first | (with_reducible exact Below.refl _ _) | (with_reducible assumption) | (with_reducible refine balloc ?_ _) | (with_reducible refine Below.drew ?_) | (with_reducible refine bset ?_ ?_ _) | (with_reducible refine bstep ?_ (by with_reducible assumption)) | (with_reducible refine bturn ?_ (by with_reducible assumption) ?_) | go_size)))).step hb2)
  have hb02 : Below w.heap.size w w2 := by (repeat' (first | (with_reducible exact Below.refl _ _) | (with_reducible assumption) | (with_reducible refine balloc ?_ _) | (with_reducible refine Below.drew ?_) | (with_reducible refine bset ?_ ?_ _) | (with_reducible refine bstep ?_ (by with_reducible assumption)) | (with_reducible refine bturn ?_ (by with_reducible assumption) ?_) | go_size))
  have K2 := Lib.hid k2
  clear k1 hb1 hb2
  go_wp2_with (refine wpList_load_blk k2 rfl _ _ (by rfl) (by rfl) (by (repeat (first | (with_reducible exact k2) | (with_reducible refine Blk.alloc ?_ _) | (with_reducible refine Blk.drew ?_) | (with_reducible refine Blk.far ?_ (by first | (simp; done) | (simp; omega)) _) | (with_reducible refine Blk.turn ?_ (by with_reducible assumption) (by omega))))) _ Tryz.underlying47 rfl (by kernel_rfl) ?_)
  refine (HT.out A c _ (by (repeat' (first | (with_reducible exact Below.refl _ _) | (with_reducible assumption) | (with_reducible refine balloc ?_ _) | (with_reducible refine Below.drew ?_) | (with_reducible refine bset ?_ ?_ _) | (with_reducible refine bstep ?_ (by with_reducible assumption)) | (with_reducible refine bturn ?_ (by with_reducible assumption) ?_) | go_size))) HA2.out).mono ?_
  rintro _ w3 ⟨rfl, hb3⟩
  have k3 := K2.out.step hb3
  have HA3 : Hid (RM clT 13 w3 A L) := Lib.hid (HA2.out.step hb3)
  have hb03 : Below w.heap.size w w3 := by (repeat' (first | (with_reducible exact Below.refl _ _) | (with_reducible assumption) | (with_reducible refine balloc ?_ _) | (with_reducible refine Below.drew ?_) | (with_reducible refine bset ?_ ?_ _) | (with_reducible refine bstep ?_ (by with_reducible assumption)) | (with_reducible refine bturn ?_ (by with_reducible assumption) ?_) | go_size))
  have K3 := Lib.hid k3
  clear K2 k2 HA2 hb02 hb3
  go_wp2_with fail
  refine (HQ.out _ (by (repeat' (first | (with_reducible exact Below.refl _ _) | (with_reducible assumption) | (with_reducible refine balloc ?_ _) | (with_reducible refine Below.drew ?_) | (with_reducible refine bset ?_ ?_ _) | (with_reducible refine bstep ?_ (by with_reducible assumption)) | (with_reducible refine bturn ?_ (by with_reducible assumption) ?_) | go_size)))).mono ?_
  rintro x w4 ⟨⟨B, d, rfl, hB⟩, hb4⟩
  have HA4 : Hid (RM clT 13 w4 A L) := Lib.hid (HA3.out.step hb4)
  have HB4 : Hid (RM clT 13 w4 B L) := Lib.hid hB
  have hb04 : Below w.heap.size w w4 := by (repeat' (first | (with_reducible exact Below.refl _ _) | (with_reducible assumption) | (with_reducible refine balloc ?_ _) | (with_reducible refine Below.drew ?_) | (with_reducible refine bset ?_ ?_ _) | (with_reducible refine bstep ?_ (by with_reducible assumption)) | (with_reducible refine bturn ?_ (by with_reducible assumption) ?_) | go_size))
  have k4 := K3.out.step hb4
  have kt : Blk (w4.alloc (.cells #[.bool any, .bool no, .slice B L.length d] 47)) w4.heap.size 47 #[.bool any, .bool no, .slice B L.length d] := Blk.new _ _ _
  have hl4 := k4.lt
  have hz4 := hb04.size
  have K4 := Lib.hid k4
  clear k3 K3 HA3 hb03 hb4 hB
  have hlu := k4.lt; have hllu := lts hlu; have qu0 := k4.cell 0; have qu1 := k4.cell 1; have qu2 := k4.cell 2; simp at qu0 qu1 qu2; have zu0 := k4.frozen 0; have zu1 := k4.frozen 1; have zu2 := k4.frozen 2; have Hk4 := Lib.hid k4; clear k4
  go_wp2_with fail
  refine (HU.out A c _ (by (repeat' (first | (with_reducible exact Below.refl _ _) | (with_reducible assumption) | (with_reducible refine balloc ?_ _) | (with_reducible refine Below.drew ?_) | (with_reducible refine bset ?_ ?_ _) | (with_reducible refine bstep ?_ (by with_reducible assumption)) | (with_reducible refine bturn ?_ (by with_reducible assumption) ?_) | go_size))) (HA4.out.step (by (repeat' (first | (with_reducible exact Below.refl _ _) | (with_reducible assumption) | (with_reducible refine balloc ?_ _) | (with_reducible refine Below.drew ?_) | (with_reducible refine bset ?_ ?_ _) | (with_reducible refine bstep ?_ (by with_reducible assumption)) | (with_reducible refine bturn ?_ (by with_reducible assumption) ?_) | go_size))))).mono ?_
  rintro _ w5 ⟨rfl, hb5⟩
  have k5 := (K4.out.alloc _).step hb5
  have kt5 := kt.step hb5
  have HA5 : Hid (RM clT 13 w5 A L) := Lib.hid ((HA4.out.step (by (repeat' (first | (with_reducible exact Below.refl _ _) | (with_reducible assumption) | (with_reducible refine balloc ?_ _) | (with_reducible refine Below.drew ?_) | (with_reducible refine bset ?_ ?_ _) | (with_reducible refine bstep ?_ (by with_reducible assumption)) | (with_reducible refine bturn ?_ (by with_reducible assumption) ?_) | go_size)))).step hb5)
  have HB5 : Hid (RM clT 13 w5 B L) := Lib.hid ((HB4.out.step (by (repeat' (first | (with_reducible exact Below.refl _ _) | (with_reducible assumption) | (with_reducible refine balloc ?_ _) | (with_reducible refine Below.drew ?_) | (with_reducible refine bset ?_ ?_ _) | (with_reducible refine bstep ?_ (by with_reducible assumption)) | (with_reducible refine bturn ?_ (by with_reducible assumption) ?_) | go_size)))).step hb5)
  have hb05 : Below w.heap.size w w5 := by (repeat' (first | (with_reducible exact Below.refl _ _) | (with_reducible assumption) | (with_reducible refine balloc ?_ _) | (with_reducible refine Below.drew ?_) | (with_reducible refine bset ?_ ?_ _) | (with_reducible refine bstep ?_ (by with_reducible assumption)) | (with_reducible refine bturn ?_ (by with_reducible assumption) ?_) | go_size))
  clear kt K4 HA4 HB4 hb04 hb5 qu0 qu1 qu2 zu0 zu1 zu2 hlu hllu
  have hlu := k5.lt; have hllu := lts hlu; have qu0 := k5.cell 0; have qu1 := k5.cell 1; have qu2 := k5.cell 2; simp at qu0 qu1 qu2; have zu0 := k5.frozen 0; have zu1 := k5.frozen 1; have zu2 := k5.frozen 2; have Hk5 := Lib.hid k5; clear k5
  have hlv := kt5.lt; have hllv := lts hlv; have qv0 := kt5.cell 0; have qv1 := kt5.cell 1; have qv2 := kt5.cell 2; simp at qv0 qv1 qv2; have zv0 := kt5.frozen 0; have zv1 := kt5.frozen 1; have zv2 := kt5.frozen 2; have Hkt5 := Lib.hid kt5; clear kt5
  go_wp2_with fail
  refine (HS.out A c B d _ HA5.out HB5.out).mono ?_
  rintro _ w6 ⟨rfl, hb6⟩
  go_wp2_with fail
  go_returns
  exact ⟨by first | rfl | simp, by (repeat' (first | (with_reducible exact Below.refl _ _) | (with_reducible assumption) | (with_reducible refine balloc ?_ _) | (with_reducible refine Below.drew ?_) | (with_reducible refine bset ?_ ?_ _) | (with_reducible refine bstep ?_ (by with_reducible assumption)) | (with_reducible refine bturn ?_ (by with_reducible assumption) ?_) | go_size))⟩
theorem uonce_any (hTA : Hid TestAny) (s : ByteArray) (hs : s.size ≤ 9223372036854775807) (m : Int) (w : World) (hw : OKW m w) :
    Calls Tryz.prog 6 #[.string s] w fun e w' => e = .returned (.bool true) ∧ Below w.heap.size w w' := by
  have HW := Lib.hid fun W (h : Below w.heap.size w W) => awake9 hTA m W (hw.step h)
  have HP := fun W (h : Below w.heap.size w W) => uparse_any hTA m s hs W (hw.step h)
  obtain ⟨h1, h2, h3⟩ := once_plain m w hw s.data.toList
  have hsz : (s.data.toList.length : Int) = (s.size : Int) := by simp
  obtain ⟨⟨t, a, e⟩, hr⟩ : ∃ r, unaryS (lxX m) s.data.toList = r := ⟨_, rfl⟩
  rw [hr] at h1 h2 h3 HP
  simp only at h1 h2 h3
  by_cases he : e = 0
  · subst he
    have hts := h1 rfl
    have e2 : utx t = (utxt t, 0) := by unfold utx; rw [if_pos hts]
    have hl := utxt_len hts
    have hl8 : t.l.length ≤ 1000 ∧ ∀ u ∈ t.l, TOk u := by
      have h := hts
      unfold tsSound at h
      split at h
      · rw [h.2]; simp
      · exact ⟨by omega, fun u hu => tok_tst (h.2.2 u hu)⟩
    have ha : a = 0 := by
      unfold unaryS at hr
      split at hr
      · injection hr with _ hr
        injection hr with hr _
        exact hr.symm
      · unfold readT at hr
        split at hr
        · obtain ⟨_, h⟩ := out_ok (show (outT _ _ _).2.2 = 0 by rw [hr])
          rw [h] at hr
          injection hr with _ hr
          injection hr with hr _
          exact hr.symm
        · obtain ⟨_, h⟩ := out_ok (show (outT _ _ _).2.2 = 0 by rw [hr])
          rw [h] at hr
          injection hr with _ hr
          injection hr with hr _
          exact hr.symm
    subst ha
    refine uo_good s t.any t.no t.l (bs (utxt t)) w HW (Lib.hid fun W hb => ?_) (Lib.hid fun A c W hb hA => ?_) (Lib.hid fun A c W hb hA => ?_) (Lib.hid fun W hb => ?_) (Lib.hid fun A c B d W hA hB => same9_any t.any t.no A B t.l c d hl8.1 W hA hB)
    · refine (HP W hb).mono ?_
      rintro e w' ⟨⟨A, c, rfl, hM, _⟩, hb'⟩
      exact ⟨⟨A, c, rfl, hM⟩, hb'⟩
    · have h := utext_any t A c m W (hw.step hb) hA hl8.2
      rw [e2] at h
      exact h
    · have h := usound_any t A c m W (hw.step hb) hA hl8.2
      classical rw [decide_eq_true hts] at h
      exact h
    · have h := uparse_any hTA m (bs (utxt t)) (by rw [bs_size]; omega) W (hw.step hb)
      have e3 : (bs (utxt t)).data.toList = utxt t := rfl
      rw [e3, back_plain m W (hw.step hb) t hts] at h
      refine h.mono ?_
      rintro e w' ⟨⟨A, c, rfl, hM, _⟩, hb'⟩
      exact ⟨⟨A, c, rfl, hM⟩, hb'⟩
  · refine uo_bad s t.any t.no t.l.length a e he h2 (by omega) w HW (Lib.hid fun W hb => ?_)
    refine (HP W hb).mono ?_
    rintro e w' ⟨⟨A, c, rfl, hM, _⟩, hb'⟩
    exact ⟨⟨A, c, rfl⟩, hb'⟩
set_option maxHeartbeats 8000000 in
set_option maxRecDepth 100000 in
theorem ut_no (s : ByteArray) (any no : Bool) (n : Nat) (a e : Int) (hc : ¬ e = 0 ∨ any = true ∨ no = true ∨ (60000 : Int) < (s.size : Int)) (w : World)
    (HW : Hid (∀ W, Below w.heap.size w W → Calls Tryz.prog 25 #[] W fun e w' => e = .returned (.bool true) ∧ Below W.heap.size W w'))
    (HP : Hid (∀ W, Below w.heap.size w W → Calls Tryz.prog 27 #[.string s] W fun x w' => (∃ A c, x = .returned (.tuple #[.agg #[.bool any, .bool no, .slice A n c], .int .i64 a, .int .i64 e])) ∧ Below W.heap.size W w')) :
    Calls Tryz.prog 7 #[.string s] w fun e w' => e = .returned (.bool true) ∧ Below w.heap.size w w' := by
  go_enter Tryz.func7, Tryz.ntmps7
  go_wp2_with fail
  refine (HP.out _ (by (repeat' (first | (with_reducible exact Below.refl _ _) | (with_reducible assumption) | (with_reducible refine balloc ?_ _) | (with_reducible refine Below.drew ?_) | (with_reducible refine bset ?_ ?_ _) | (with_reducible refine bstep ?_ (by with_reducible assumption)) | (with_reducible refine bturn ?_ (by with_reducible assumption) ?_) | go_size)))).mono ?_
  rintro x w1 ⟨⟨A, c, rfl⟩, hb1⟩
  have k1 : Blk (w1.alloc (.cells #[.bool any, .bool no, .slice A n c] 47)) w1.heap.size 47 #[.bool any, .bool no, .slice A n c] := Blk.new _ _ _
  go_wp2_with fail
  refine (HW.out _ (by (repeat' (first | (with_reducible exact Below.refl _ _) | (with_reducible assumption) | (with_reducible refine balloc ?_ _) | (with_reducible refine Below.drew ?_) | (with_reducible refine bset ?_ ?_ _) | (with_reducible refine bstep ?_ (by with_reducible assumption)) | (with_reducible refine bturn ?_ (by with_reducible assumption) ?_) | go_size)))).mono ?_
  rintro _ w2 ⟨rfl, hb2⟩
  have k2 := k1.step hb2
  have hb02 : Below w.heap.size w w2 := by (repeat' (first | (with_reducible exact Below.refl _ _) | (with_reducible assumption) | (with_reducible refine balloc ?_ _) | (with_reducible refine Below.drew ?_) | (with_reducible refine bset ?_ ?_ _) | (with_reducible refine bstep ?_ (by with_reducible assumption)) | (with_reducible refine bturn ?_ (by with_reducible assumption) ?_) | go_size))
  clear k1 hb1 hb2
  have hlu := k2.lt; have hllu := lts hlu; have qu0 := k2.cell 0; have qu1 := k2.cell 1; have qu2 := k2.cell 2; simp at qu0 qu1 qu2; have zu0 := k2.frozen 0; have zu1 := k2.frozen 1; have zu2 := k2.frozen 2; have Hk2 := Lib.hid k2; clear k2
  by_cases he : e = 0
  · subst he
    cases any with
    | true =>
      clear hc
      go_wp2_with fail
      refine (HW.out _ (by (repeat' (first | (with_reducible exact Below.refl _ _) | (with_reducible assumption) | (with_reducible refine balloc ?_ _) | (with_reducible refine Below.drew ?_) | (with_reducible refine bset ?_ ?_ _) | (with_reducible refine bstep ?_ (by with_reducible assumption)) | (with_reducible refine bturn ?_ (by with_reducible assumption) ?_) | go_size)))).mono ?_
      rintro _ w3 ⟨rfl, hb3⟩
      go_wp2_with fail
      go_returns
      exact ⟨by first | rfl | simp, by (repeat' (first | (with_reducible exact Below.refl _ _) | (with_reducible assumption) | (with_reducible refine balloc ?_ _) | (with_reducible refine Below.drew ?_) | (with_reducible refine bset ?_ ?_ _) | (with_reducible refine bstep ?_ (by with_reducible assumption)) | (with_reducible refine bturn ?_ (by with_reducible assumption) ?_) | go_size))⟩
    | false =>
      cases no with
      | true =>
        clear hc
        go_wp2_with fail
        refine (HW.out _ (by (repeat' (first | (with_reducible exact Below.refl _ _) | (with_reducible assumption) | (with_reducible refine balloc ?_ _) | (with_reducible refine Below.drew ?_) | (with_reducible refine bset ?_ ?_ _) | (with_reducible refine bstep ?_ (by with_reducible assumption)) | (with_reducible refine bturn ?_ (by with_reducible assumption) ?_) | go_size)))).mono ?_
        rintro _ w3 ⟨rfl, hb3⟩
        go_wp2_with fail
        go_returns
        exact ⟨by first | rfl | simp, by (repeat' (first | (with_reducible exact Below.refl _ _) | (with_reducible assumption) | (with_reducible refine balloc ?_ _) | (with_reducible refine Below.drew ?_) | (with_reducible refine bset ?_ ?_ _) | (with_reducible refine bstep ?_ (by with_reducible assumption)) | (with_reducible refine bturn ?_ (by with_reducible assumption) ?_) | go_size))⟩
      | false =>
        have hl : (60000 : Int) < (s.size : Int) := by
          rcases hc with h | h | h | h
          · exact absurd rfl h
          · cases h
          · cases h
          · exact h
        clear hc
        go_wp2_with fail
        refine (HW.out _ (by (repeat' (first | (with_reducible exact Below.refl _ _) | (with_reducible assumption) | (with_reducible refine balloc ?_ _) | (with_reducible refine Below.drew ?_) | (with_reducible refine bset ?_ ?_ _) | (with_reducible refine bstep ?_ (by with_reducible assumption)) | (with_reducible refine bturn ?_ (by with_reducible assumption) ?_) | go_size)))).mono ?_
        rintro _ w3 ⟨rfl, hb3⟩
        go_wp2_with fail
        go_returns
        exact ⟨by first | rfl | simp, by (repeat' (first | (with_reducible exact Below.refl _ _) | (with_reducible assumption) | (with_reducible refine balloc ?_ _) | (with_reducible refine Below.drew ?_) | (with_reducible refine bset ?_ ?_ _) | (with_reducible refine bstep ?_ (by with_reducible assumption)) | (with_reducible refine bturn ?_ (by with_reducible assumption) ?_) | go_size))⟩
  · have heb : (e != 0) = true := by simpa using he
    clear hc
    go_wp2_with fail
    refine (HW.out _ (by (repeat' (first | (with_reducible exact Below.refl _ _) | (with_reducible assumption) | (with_reducible refine balloc ?_ _) | (with_reducible refine Below.drew ?_) | (with_reducible refine bset ?_ ?_ _) | (with_reducible refine bstep ?_ (by with_reducible assumption)) | (with_reducible refine bturn ?_ (by with_reducible assumption) ?_) | go_size)))).mono ?_
    rintro _ w3 ⟨rfl, hb3⟩
    go_wp2_with fail
    go_returns
    exact ⟨by first | rfl | simp, by (repeat' (first | (with_reducible exact Below.refl _ _) | (with_reducible assumption) | (with_reducible refine balloc ?_ _) | (with_reducible refine Below.drew ?_) | (with_reducible refine bset ?_ ?_ _) | (with_reducible refine bstep ?_ (by with_reducible assumption)) | (with_reducible refine bturn ?_ (by with_reducible assumption) ?_) | go_size))⟩
set_option maxHeartbeats 8000000 in
set_option maxRecDepth 100000 in
theorem ut_yes (s S : ByteArray) (hs : ¬ (60000 : Int) < (s.size : Int)) (hS : (⟨#[110, 111, 116, 40]⟩ ++ s) ++ ⟨#[41]⟩ = S) (L : List Tst) (w : World)
    (HW : Hid (∀ W, Below w.heap.size w W → Calls Tryz.prog 25 #[] W fun e w' => e = .returned (.bool true) ∧ Below W.heap.size W w'))
    (HP : Hid (∀ W, Below w.heap.size w W → Calls Tryz.prog 27 #[.string s] W fun x w' => (∃ A c, x = .returned (.tuple #[.agg #[.bool false, .bool false, .slice A L.length c], .int .i64 0, .int .i64 0]) ∧ RM clT 13 w' A L ∧ ∀ g o, A = some ⟨g, o, none⟩ → W.heap.size ≤ g ∧ g < w'.heap.size) ∧ Below W.heap.size W w'))
    (HQ : Hid (∀ W, Below w.heap.size w W → Calls Tryz.prog 27 #[.string S] W fun x w' => (∃ A c, x = .returned (.tuple #[.agg #[.bool false, .bool true, .slice A L.length c], .int .i64 0, .int .i64 0]) ∧ RM clT 13 w' A L ∧ ∀ g o, A = some ⟨g, o, none⟩ → W.heap.size ≤ g) ∧ Below W.heap.size W w'))
    (HS : Hid (∀ A c B d W, RM clT 13 W A L → RM clT 13 W B L → Calls Tryz.prog 28 #[.agg #[.bool false, .bool true, .slice A L.length c], .agg #[.bool false, .bool true, .slice B L.length d]] W fun e w' => e = .returned (.bool true) ∧ Below W.heap.size W w')) :
    Calls Tryz.prog 7 #[.string s] w fun e w' => e = .returned (.bool true) ∧ Below w.heap.size w w' := by
  have f1 : 4 + s.size ≤ 9223372036854775807 := by omega
  have f2 : ((⟨#[110, 111, 116, 40]⟩ : ByteArray) ++ s).size + 1 ≤ 9223372036854775807 := by rw [ByteArray.size_append]; show 4 + s.size + 1 ≤ _; omega
  have f3 : 4 + s.size + 1 ≤ 9223372036854775807 := by omega
  go_enter Tryz.func7, Tryz.ntmps7
  go_wp2_with fail
  refine (HP.out _ (by (repeat' (first | (with_reducible exact Below.refl _ _) | (with_reducible assumption) | (with_reducible refine balloc ?_ _) | (with_reducible refine Below.drew ?_) | (with_reducible refine bset ?_ ?_ _) | (with_reducible refine bstep ?_ (by with_reducible assumption)) | (with_reducible refine bturn ?_ (by with_reducible assumption) ?_) | go_size)))).mono ?_
  rintro x w1 ⟨⟨A, c, rfl, hA, hAb⟩, hb1⟩
  have HA := Lib.hid hA
  have HAB := Lib.hid hAb
  have k1 : Blk (w1.alloc (.cells #[.bool false, .bool false, .slice A L.length c] 47)) w1.heap.size 47 #[.bool false, .bool false, .slice A L.length c] := Blk.new _ _ _
  have hz1 := hb1.size
  clear hA hAb
  go_wp2_with fail
  refine (HW.out _ (by (repeat' (first | (with_reducible exact Below.refl _ _) | (with_reducible assumption) | (with_reducible refine balloc ?_ _) | (with_reducible refine Below.drew ?_) | (with_reducible refine bset ?_ ?_ _) | (with_reducible refine bstep ?_ (by with_reducible assumption)) | (with_reducible refine bturn ?_ (by with_reducible assumption) ?_) | go_size)))).mono ?_
  rintro _ w2 ⟨rfl, hb2⟩
  have k2 := k1.step hb2
  have HA2 : Hid (RM clT 13 w2 A L) := Lib.hid ((HA.out.step (by (repeat' (first | (with_reducible exact Below.refl _ _) | (with_reducible assumption) | (with_reducible refine balloc ?_ _) | (with_reducible refine Below.drew ?_) | (with_reducible refine bset ?_ ?_ _) | (with_reducible refine bstep ?_ (by with_reducible assumption)) | (with_reducible refine bturn ?_ (by with_reducible assumption) ?_) | go_size)))).step hb2)
  have hb02 : Below w.heap.size w w2 := by (repeat' (first | (with_reducible exact Below.refl _ _) | (with_reducible assumption) | (with_reducible refine balloc ?_ _) | (with_reducible refine Below.drew ?_) | (with_reducible refine bset ?_ ?_ _) | (with_reducible refine bstep ?_ (by with_reducible assumption)) | (with_reducible refine bturn ?_ (by with_reducible assumption) ?_) | go_size))
  have K2 := Lib.hid k2
  clear k1 hb1 hb2
  have hlu := k2.lt; have hllu := lts hlu; have qu0 := k2.cell 0; have qu1 := k2.cell 1; have qu2 := k2.cell 2; simp at qu0 qu1 qu2; have zu0 := k2.frozen 0; have zu1 := k2.frozen 1; have zu2 := k2.frozen 2; have Hk2 := Lib.hid k2; clear k2
  go_wp2_with fail
  refine (HQ.out _ (by (repeat' (first | (with_reducible exact Below.refl _ _) | (with_reducible assumption) | (with_reducible refine balloc ?_ _) | (with_reducible refine Below.drew ?_) | (with_reducible refine bset ?_ ?_ _) | (with_reducible refine bstep ?_ (by with_reducible assumption)) | (with_reducible refine bturn ?_ (by with_reducible assumption) ?_) | go_size)))).mono ?_
  rintro x w3 ⟨⟨B, d, rfl, hB, hBb⟩, hb3⟩
  have HBB := Lib.hid hBb
  have k3 := K2.out.step hb3
  have HA3 : Hid (RM clT 13 w3 A L) := Lib.hid (HA2.out.step hb3)
  have HB3 := Lib.hid hB
  have hb03 : Below w.heap.size w w3 := by (repeat' (first | (with_reducible exact Below.refl _ _) | (with_reducible assumption) | (with_reducible refine balloc ?_ _) | (with_reducible refine Below.drew ?_) | (with_reducible refine bset ?_ ?_ _) | (with_reducible refine bstep ?_ (by with_reducible assumption)) | (with_reducible refine bturn ?_ (by with_reducible assumption) ?_) | go_size))
  have hl2 := K2.out.lt
  have hl3 := k3.lt
  have K3 := Lib.hid k3
  clear hB hBb K2 HA2 hb02 hb3 qu0 qu1 qu2 zu0 zu1 zu2 hlu hllu
  have hlu := k3.lt; have hllu := lts hlu; have qu0 := k3.cell 0; have qu1 := k3.cell 1; have qu2 := k3.cell 2; simp at qu0 qu1 qu2; have zu0 := k3.frozen 0; have zu1 := k3.frozen 1; have zu2 := k3.frozen 2; have Hk3 := Lib.hid k3; clear k3
  go_upto_region 6 with fail
  have k4' : Blk (w3.setCell ⟨w1.heap.size, 1, none⟩ (.bool true)) w1.heap.size 47 #[.bool false, .bool true, .slice A L.length c] := by
    have := K3.out.set_ 1 (.bool true)
    simpa using this
  have t4 : Turned w3 (w3.setCell ⟨w1.heap.size, 1, none⟩ (.bool true)) w1.heap.size := Turned.setCell _ _ _ _
  generalize w3.setCell ⟨w1.heap.size, 1, none⟩ (.bool true) = w4 at *
  have hz4 := t4.size
  have kt4 : Blk (w4.alloc (.cells #[.bool false, .bool true, .slice B L.length d] 47)) w3.heap.size 47 #[.bool false, .bool true, .slice B L.length d] := Blk.new' _ _ _ hz4.symm
  have k4 := k4'.alloc (.cells #[.bool false, .bool true, .slice B L.length d] 47)
  have HA5 := Lib.hid ((HA3.out.gr (b := w1.heap.size) ((Gr.refl _ _).turn t4) (fun g o e => by have := (HAB.out g o e).2; omega)).step (w' := w4.alloc (.cells #[.bool false, .bool true, .slice B L.length d] 47)) (by (repeat' (first | (with_reducible exact Below.refl _ _) | (with_reducible assumption) | (with_reducible refine balloc ?_ _) | (with_reducible refine Below.drew ?_) | (with_reducible refine bset ?_ ?_ _) | (with_reducible refine bstep ?_ (by with_reducible assumption)) | (with_reducible refine bturn ?_ (by with_reducible assumption) ?_) | go_size))))
  have HB5 := Lib.hid ((HB3.out.gr (b := w1.heap.size) ((Gr.refl _ _).turn t4) (fun g o e => by have := HBB.out g o e; omega)).step (w' := w4.alloc (.cells #[.bool false, .bool true, .slice B L.length d] 47)) (by (repeat' (first | (with_reducible exact Below.refl _ _) | (with_reducible assumption) | (with_reducible refine balloc ?_ _) | (with_reducible refine Below.drew ?_) | (with_reducible refine bset ?_ ?_ _) | (with_reducible refine bstep ?_ (by with_reducible assumption)) | (with_reducible refine bturn ?_ (by with_reducible assumption) ?_) | go_size))))
  have hb04 : Below w.heap.size w w4 := bturn hb03 t4 (by omega)
  clear HA3 HB3 t4 K3 hb03 qu0 qu1 qu2 zu0 zu1 zu2 hlu hllu k4'
  have hlu := k4.lt; have hllu := lts hlu; have qu0 := k4.cell 0; have qu1 := k4.cell 1; have qu2 := k4.cell 2; simp at qu0 qu1 qu2; have zu0 := k4.frozen 0; have zu1 := k4.frozen 1; have zu2 := k4.frozen 2; have Hk4 := Lib.hid k4; clear k4
  have hlv := kt4.lt; have hllv := lts hlv; have qv0 := kt4.cell 0; have qv1 := kt4.cell 1; have qv2 := kt4.cell 2; simp at qv0 qv1 qv2; have zv0 := kt4.frozen 0; have zv1 := kt4.frozen 1; have zv2 := kt4.frozen 2; have Hkt4 := Lib.hid kt4; clear kt4
  go_wp2_with fail
  refine (HS.out A c B d _ HA5.out HB5.out).mono ?_
  rintro _ w6 ⟨rfl, hb6⟩
  go_wp2_with fail
  go_returns
  exact ⟨by first | rfl | simp, by (repeat' (first | (with_reducible exact Below.refl _ _) | (with_reducible assumption) | (with_reducible refine balloc ?_ _) | (with_reducible refine Below.drew ?_) | (with_reducible refine bset ?_ ?_ _) | (with_reducible refine bstep ?_ (by with_reducible assumption)) | (with_reducible refine bturn ?_ (by with_reducible assumption) ?_) | go_size))⟩
theorem rm_lt {w : World} {A : Option Addr} {L : List Tst} (h : RM clT 13 w A L) (hL : 1 ≤ L.length) : ∀ g o, A = some ⟨g, o, none⟩ → g < w.heap.size := fun g o e => by
  obtain ⟨g', o', e', hc⟩ := h 0 L[0] (List.getElem?_eq_getElem hL)
  rw [e'] at e
  injection e with e
  injection e with e1 e2
  subst e1
  exact block_lt_of_cell (hc 0 _ rfl)
theorem uturned_any (hTA : Hid TestAny) (s : ByteArray) (hs : s.size ≤ 9223372036854775807) (m : Int) (w : World) (hw : OKW m w) :
    Calls Tryz.prog 7 #[.string s] w fun e w' => e = .returned (.bool true) ∧ Below w.heap.size w w' := by
  have HW := Lib.hid fun W (h : Below w.heap.size w W) => awake9 hTA m W (hw.step h)
  have HP := fun W (h : Below w.heap.size w W) => uparse_any hTA m s hs W (hw.step h)
  obtain ⟨h1, h2, h3⟩ := once_plain m w hw s.data.toList
  have hsz : (s.data.toList.length : Int) = (s.size : Int) := by simp
  obtain ⟨⟨t, a, e⟩, hr⟩ : ∃ r, unaryS (lxX m) s.data.toList = r := ⟨_, rfl⟩
  rw [hr] at h1 HP
  simp only at h1
  by_cases hc : ¬ e = 0 ∨ t.any = true ∨ t.no = true ∨ (60000 : Int) < (s.size : Int)
  · refine ut_no s t.any t.no t.l.length a e hc w HW (Lib.hid fun W hb => ?_)
    refine (HP W hb).mono ?_
    rintro e w' ⟨⟨A, c, rfl, hM, _⟩, hb'⟩
    exact ⟨⟨A, c, rfl⟩, hb'⟩
  · have he : e = 0 := Classical.byContradiction fun h => hc (.inl h)
    have hany : t.any = false := by
      cases h : t.any with
      | false => rfl
      | true => exact absurd (.inr (.inl h)) hc
    have hno : t.no = false := by
      cases h : t.no with
      | false => rfl
      | true => exact absurd (.inr (.inr (.inl h))) hc
    have hlen : ¬ (60000 : Int) < (s.size : Int) := fun h => hc (.inr (.inr (.inr h)))
    subst he
    have hts := h1 rfl
    have hl8 : 1 ≤ t.l.length ∧ t.l.length ≤ 1000 := by
      have h := hts
      unfold tsSound at h
      rw [if_neg (by rw [hany]; simp)] at h
      omega
    have hread : readT (newP (toksS (lxX m) s.data.toList) s.data.toList.length) = (t, a, 0) := by
      unfold unaryS at hr
      split at hr
      · injection hr with hr _
        rw [← hr] at hany
        cases hany
      · exact hr
    have ha : a = 0 := by
      unfold readT at hread
      split at hread
      · obtain ⟨_, h⟩ := out_ok (show (outT _ _ _).2.2 = 0 by rw [hread])
        rw [h] at hread
        injection hread with _ hread
        injection hread with hread _
        exact hread.symm
      · obtain ⟨_, h⟩ := out_ok (show (outT _ _ _).2.2 = 0 by rw [hread])
        rw [h] at hread
        injection hread with _ hread
        injection hread with hread _
        exact hread.symm
    subst ha
    have hturn := turned (lxX m) s.data.toList (by omega) (by rw [hread]) (by rw [hread]; exact hno)
    rw [hread] at hturn
    have hS : ((⟨#[110, 111, 116, 40]⟩ : ByteArray) ++ s) ++ ⟨#[41]⟩ = bs (notB ++ 40 :: (s.data.toList ++ [41])) := by
      have e1 : s = bs s.data.toList := bs_of rfl
      rw [e1, show (⟨#[110, 111, 116, 40]⟩ : ByteArray) = bs [110, 111, 116, 40] from rfl, show (⟨#[41]⟩ : ByteArray) = bs [41] from rfl, bs_app, bs_app]
      rfl
    refine ut_yes s _ hlen hS t.l w HW (Lib.hid fun W hb => ?_) (Lib.hid fun W hb => ?_) (Lib.hid fun A c B d W hA hB => same9_any false true A B t.l c d hl8.2 W hA hB)
    · refine (HP W hb).mono ?_
      rintro e w' ⟨⟨A, c, rfl, hM, hA⟩, hb'⟩
      exact ⟨⟨A, c, by rw [hany, hno], hM, fun g o e => ⟨hA g o e, rm_lt hM hl8.1 g o e⟩⟩, hb'⟩
    · have h := uparse_any hTA m (bs (notB ++ 40 :: (s.data.toList ++ [41]))) (by rw [bs_size, List.length_append, List.length_cons, List.length_append, List.length_cons, List.length_nil]; have : notB.length = 3 := rfl; omega) W (hw.step hb)
      have e3 : (bs (notB ++ 40 :: (s.data.toList ++ [41]))).data.toList = notB ++ 40 :: (s.data.toList ++ [41]) := rfl
      rw [e3, hturn] at h
      refine h.mono ?_
      rintro e w' ⟨⟨A, c, rfl, hM, hA⟩, hb'⟩
      exact ⟨⟨A, c, rfl, hM, hA⟩, hb'⟩
end Go.Proofs.YtkkeplmaphcblaaGreatDoor

namespace Go.Proofs.YtkkeplmaphcblaaGreatDoor
open Go.ChangeShapes Go.WideShapes Go.ChangeAt Go.RowKit Go.Deep

theorem load_store_k {P : Program} {fn : Func} {R : Ending → World → Prop} {K : Act → World → Prop} {Q : Exit → Act → World → Prop} {a : Act} {w : World} {id : Nat} {ty : TypeId} {s r d : Tmp} {t1 t2 : TypeId} {p1 p2 : String} {f1 f2 : Array Edge} {g g2 : Nat} {T T2 : TypeId} {cs cs2 : Array Value} {fs : Array Field}
    (hQ : Q = bodyPost P fn R) (hf : fn.results = #[.cell r ty]) (hs : a.tmps.getD s undef = .pointer (some ⟨g, 0, none⟩)) (hr : a.tmps.getD r undef = .pointer (some ⟨g2, 0, none⟩)) (hd : d < a.tmps.size) (hdr : d ≠ r) (hdf : a.defers = [])
    (hB : Blk w g T cs) (hB2 : Blk w g2 T2 cs2) (hz : cs.size = cs2.size) (hu : P.underlying ty = some (.struct fs)) (hi : (P.info? ty).map (·.size) = some cs.size) (h1 : cs.all (·.oneCell') = true)
    (hK : ∀ a w, Code.ret.wp P Q a w → K a w) (hR : ∀ w1, Blk w1 g2 T2 cs → Turned w w1 g2 → R (.returned (.agg cs)) w1) :
    Code.wp P (Code.region id #[{ dst := some d, op := .load ty (.tmp s), type := t1, pos := p1, after := f1, guard := none }, { dst := none, op := .store ty (.tmp r) (.tmp d), type := t2, pos := p2, after := f2, guard := none }] false) (Exit.then K Q) a w := by
  subst hQ
  refine wp_region_list ?_
  refine wpList_load_blk hB rfl ty (.tmp s) rfl hs hB _ hu rfl hi ?_
  have e1 : (a.put (some d) (.agg cs)).tmps.getD r undef = .pointer (some ⟨g2, 0, none⟩) := by
    rw [← hr]
    simp [Act.put, Array.getD_eq_getD_getElem?, Array.getElem?_setIfInBounds, hdr]
  have e2 : (a.put (some d) (.agg cs)).tmps.getD d undef = .agg cs := by
    simp [Act.put, Array.getD_eq_getD_getElem?, Array.getElem?_setIfInBounds, hd]
  refine wpList_store_blk hB2 rfl ty (.tmp r) (.tmp d) rfl cs e1 e2 hB2 hz hi h1 fun w1 hw1 ht => ?_
  refine wpList_nil ?_
  refine hK _ _ ?_
  refine wp_ret ?_
  exact ret_blk hf hw1 e1 hu rfl hi hdf (hR w1 hw1 ht)
theorem load_store_ret {P : Program} {fn : Func} {R : Ending → World → Prop} {Q : Exit → Act → World → Prop} {a : Act} {w : World} {id : Nat} {ty : TypeId} {s r d : Tmp} {t1 t2 : TypeId} {p1 p2 : String} {f1 f2 : Array Edge} {g g2 : Nat} {T T2 : TypeId} {cs cs2 : Array Value} {fs : Array Field}
    (hQ : Q = bodyPost P fn R) (hf : fn.results = #[.cell r ty]) (hs : a.tmps.getD s undef = .pointer (some ⟨g, 0, none⟩)) (hr : a.tmps.getD r undef = .pointer (some ⟨g2, 0, none⟩)) (hd : d < a.tmps.size) (hdr : d ≠ r) (hdf : a.defers = [])
    (hB : Blk w g T cs) (hB2 : Blk w g2 T2 cs2) (hz : cs.size = cs2.size) (hu : P.underlying ty = some (.struct fs)) (hi : (P.info? ty).map (·.size) = some cs.size) (h1 : cs.all (·.oneCell') = true)
    (hR : ∀ w1, Blk w1 g2 T2 cs → Turned w w1 g2 → R (.returned (.agg cs)) w1) :
    Code.wp P ((Code.region id #[{ dst := some d, op := .load ty (.tmp s), type := t1, pos := p1, after := f1, guard := none }, { dst := none, op := .store ty (.tmp r) (.tmp d), type := t2, pos := p2, after := f2, guard := none }] false).seq Code.ret) Q a w :=
  wp_seq_k fun _ hK => load_store_k hQ hf hs hr hd hdr hdf hB hB2 hz hu hi h1 hK hR
end Go.Proofs.YtkkeplmaphcblaaGreatDoor
