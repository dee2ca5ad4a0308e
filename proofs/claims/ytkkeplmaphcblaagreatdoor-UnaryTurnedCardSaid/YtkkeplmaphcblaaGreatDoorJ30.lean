/- The walk of the reference's value.Sound (layer 4). The walk of the reference's Sound of tests (layer 9). -/
import Derived.Test.YtkkeplmaphcblaaGreatDoorJ29
import Derived.Test.YtkkeplmaphcblaaGreatDoorJ7
import Derived.Test.YtkkeplmaphcblaaGreatDoorJ22
import Derived.Deep.DeepCutAuto
import Derived.Test.YtkkeplmaphcblaaGreatDoorJ23
namespace Go.Proofs.YtkkeplmaphcblaaGreatDoor
open Go.RowKit

def r4R (k : Int) (N E sd : Bool) (m : Int) (sz gd : Bool) : Bool :=
  if k = 0 then N && E && m == 0 else if k = 1 then sd && E && m == 0 else if k = 2 then N && m == 0 && sz && gd else if k = 3 then N && E && (m == 0 || m == 1) else if k = 4 then N && E && decide (0 ≤ m) && decide (m ≤ 3652058) else false
section
variable (k n s m : Int) (q : ByteArray) (w : World) (N E sd gd : Bool)
set_option maxHeartbeats 16000000 in
set_option maxRecDepth 100000 in
theorem r4_walk (hN : (n == 0 && s == 0) = N) (hE : q.toList.isEmpty = E)
    (KD : Hid (∀ W, Below w.heap.size w W → Calls Tryz.prog 73 #[.agg #[.int .i64 n, .int .i64 s]] W fun e w' => e = .returned (.bool sd) ∧ Below W.heap.size W w'))
    (KG : Hid ((q.size : Int) ≤ 256 → ∀ W, Calls Tryz.prog 74 #[.string q] W fun e w' => e = .returned (.bool gd) ∧ W = w')) :
    Calls Tryz.prog 39 #[.agg #[.int .i64 k, .int .i64 n, .int .i64 s, .string q, .int .i64 m]] w fun e w' => e = .returned (.bool (r4R k N E sd m (decide ((q.size : Int) ≤ 256)) gd)) ∧ Below w.heap.size w w' := by
  have HN := Lib.hid hN
  clear hN
  go_enter Tryz.func39, Tryz.ntmps39
  go_upto_region 1 with fail
  go_cut [3] (fun x wx => x = .bool N ∧ wx = w.alloc (.cells #[.int .i64 k, .int .i64 n, .int .i64 s, .string q, .int .i64 m] 25))
  case first =>
    by_cases h1 : n = 0
    · subst h1
      go_wp2_with fail
      go_meet
      case rel => exact ⟨by rw [← HN.out]; rfl, rfl⟩
    · go_wp2_with fail
      go_meet
      case rel => exact ⟨by rw [← HN.out, beq_eq_false_iff_ne.2 h1]; first | done | rfl, rfl⟩
  case rest =>
    obtain ⟨rfl, rfl⟩ := hcut
    by_cases k0 : k = 0
    · subst k0
      cases N
      case' true => cases E
      all_goals
        go_wp2_with fail
        go_returns
        refine ⟨?_, by (repeat' (first | (with_reducible exact Below.refl _ _) | (with_reducible assumption) | (with_reducible refine balloc ?_ _) | (with_reducible refine Below.drew ?_) | (with_reducible refine bset ?_ ?_ _) | (with_reducible refine bstep ?_ (by with_reducible assumption)) | (with_reducible refine bturn ?_ (by with_reducible assumption) ?_) | go_size))⟩
        simp [r4R]
    by_cases k1 : k = 1
    · subst k1
      have kb : Blk (w.alloc (.cells #[.int .i64 1, .int .i64 n, .int .i64 s, .string q, .int .i64 m] 25)) w.heap.size 25 #[.int .i64 1, .int .i64 n, .int .i64 s, .string q, .int .i64 m] := Blk.new _ _ _
      go_wp2_with fail
      refine (KD.out _ (by (repeat' (first | (with_reducible exact Below.refl _ _) | (with_reducible assumption) | (with_reducible refine balloc ?_ _) | (with_reducible refine Below.drew ?_) | (with_reducible refine bset ?_ ?_ _) | (with_reducible refine bstep ?_ (by with_reducible assumption)) | (with_reducible refine bturn ?_ (by with_reducible assumption) ?_) | go_size)))).mono ?_
      rintro e w1 ⟨rfl, hb1⟩
      have kb1 := kb.step hb1
      have hb01 : Below w.heap.size w w1 := by (repeat' (first | (with_reducible exact Below.refl _ _) | (with_reducible assumption) | (with_reducible refine balloc ?_ _) | (with_reducible refine Below.drew ?_) | (with_reducible refine bset ?_ ?_ _) | (with_reducible refine bstep ?_ (by with_reducible assumption)) | (with_reducible refine bturn ?_ (by with_reducible assumption) ?_) | go_size))
      clear kb hb1
      have hlu := kb1.lt; have hllu := lts hlu; have qu0 := kb1.cell 0; have qu1 := kb1.cell 1; have qu2 := kb1.cell 2; have qu3 := kb1.cell 3; have qu4 := kb1.cell 4; simp at qu0 qu1 qu2 qu3 qu4; have zu0 := kb1.frozen 0; have zu1 := kb1.frozen 1; have zu2 := kb1.frozen 2; have zu3 := kb1.frozen 3; have zu4 := kb1.frozen 4; have Hkb1 := Lib.hid kb1; clear kb1
      cases sd
      case' true => cases E
      all_goals
        go_wp2_with fail
        go_returns
        refine ⟨?_, by (repeat' (first | (with_reducible exact Below.refl _ _) | (with_reducible assumption) | (with_reducible refine balloc ?_ _) | (with_reducible refine Below.drew ?_) | (with_reducible refine bset ?_ ?_ _) | (with_reducible refine bstep ?_ (by with_reducible assumption)) | (with_reducible refine bturn ?_ (by with_reducible assumption) ?_) | go_size))⟩
        simp [r4R]
    by_cases k2 : k = 2
    · subst k2
      cases N with
      | false =>
        go_wp2_with fail
        go_returns
        refine ⟨?_, by (repeat' (first | (with_reducible exact Below.refl _ _) | (with_reducible assumption) | (with_reducible refine balloc ?_ _) | (with_reducible refine Below.drew ?_) | (with_reducible refine bset ?_ ?_ _) | (with_reducible refine bstep ?_ (by with_reducible assumption)) | (with_reducible refine bturn ?_ (by with_reducible assumption) ?_) | go_size))⟩
        simp [r4R]
      | true =>
        by_cases hm : m = 0
        · subst hm
          by_cases hq : (q.size : Int) ≤ 256
          · have KG1 := Lib.hid (KG.out hq)
            have HQ : Hid (decide ((q.size : Int) ≤ 256) = true) := Lib.hid (decide_eq_true hq)
            go_wp2_with fail
            refine (KG1.out _).mono ?_
            rintro e w1 ⟨rfl, rfl⟩
            go_wp2_with fail
            go_returns
            refine ⟨?_, by (repeat' (first | (with_reducible exact Below.refl _ _) | (with_reducible assumption) | (with_reducible refine balloc ?_ _) | (with_reducible refine Below.drew ?_) | (with_reducible refine bset ?_ ?_ _) | (with_reducible refine bstep ?_ (by with_reducible assumption)) | (with_reducible refine bturn ?_ (by with_reducible assumption) ?_) | go_size))⟩
            rw [HQ.out]
            simp [r4R]
          · have HQ : Hid (decide ((q.size : Int) ≤ 256) = false) := Lib.hid (decide_eq_false hq)
            go_wp2_with fail
            go_returns
            refine ⟨?_, by (repeat' (first | (with_reducible exact Below.refl _ _) | (with_reducible assumption) | (with_reducible refine balloc ?_ _) | (with_reducible refine Below.drew ?_) | (with_reducible refine bset ?_ ?_ _) | (with_reducible refine bstep ?_ (by with_reducible assumption)) | (with_reducible refine bturn ?_ (by with_reducible assumption) ?_) | go_size))⟩
            rw [HQ.out]
            simp [r4R]
        · have HM := Lib.hid (beq_eq_false_iff_ne.2 hm)
          go_wp2_with fail
          go_returns
          refine ⟨?_, by (repeat' (first | (with_reducible exact Below.refl _ _) | (with_reducible assumption) | (with_reducible refine balloc ?_ _) | (with_reducible refine Below.drew ?_) | (with_reducible refine bset ?_ ?_ _) | (with_reducible refine bstep ?_ (by with_reducible assumption)) | (with_reducible refine bturn ?_ (by with_reducible assumption) ?_) | go_size))⟩
          simp [r4R]
          intro h
          exact absurd h hm
    by_cases k3 : k = 3
    · subst k3
      cases N
      case' true => cases E
      case' true.true => by_cases hm : m = 0
      all_goals
        go_wp2_with fail
        go_returns
        refine ⟨?_, by (repeat' (first | (with_reducible exact Below.refl _ _) | (with_reducible assumption) | (with_reducible refine balloc ?_ _) | (with_reducible refine Below.drew ?_) | (with_reducible refine bset ?_ ?_ _) | (with_reducible refine bstep ?_ (by with_reducible assumption)) | (with_reducible refine bturn ?_ (by with_reducible assumption) ?_) | go_size))⟩
        first | (simp [r4R]; done) | simp [r4R, hm]
    by_cases k4 : k = 4
    · subst k4
      cases N
      case' true => cases E
      case' true.true => by_cases hm : 0 ≤ m
      all_goals
        try have HM := Lib.hid hm
        go_wp2_with fail
        go_returns
        refine ⟨?_, by (repeat' (first | (with_reducible exact Below.refl _ _) | (with_reducible assumption) | (with_reducible refine balloc ?_ _) | (with_reducible refine Below.drew ?_) | (with_reducible refine bset ?_ ?_ _) | (with_reducible refine bstep ?_ (by with_reducible assumption)) | (with_reducible refine bturn ?_ (by with_reducible assumption) ?_) | go_size))⟩
        first | (simp [r4R]; done) | (simp [r4R]; omega)
    · have HK := Lib.hid (And.intro k0 (And.intro k1 (And.intro k2 (And.intro k3 k4))))
      go_wp2_with fail
      go_returns
      refine ⟨?_, by (repeat' (first | (with_reducible exact Below.refl _ _) | (with_reducible assumption) | (with_reducible refine balloc ?_ _) | (with_reducible refine Below.drew ?_) | (with_reducible refine bset ?_ ?_ _) | (with_reducible refine bstep ?_ (by with_reducible assumption)) | (with_reducible refine bturn ?_ (by with_reducible assumption) ?_) | go_size))⟩
      unfold r4R
      obtain ⟨g0, g1, g2, g3, g4⟩ := HK.out
      rw [if_neg g0, if_neg g1, if_neg g2, if_neg g3, if_neg g4]
      try rfl
end
end Go.Proofs.YtkkeplmaphcblaaGreatDoor

namespace Go.Proofs.YtkkeplmaphcblaaGreatDoor
open Go.RowKit Go.Shelf
attribute [local go_sem high] run_vl_eql run_vl_neq

open Classical in
theorem r4_any (v : Vl) (hv : VOk v) (w : World) :
    Calls Tryz.prog 39 #[.agg (cellsV v)] w fun e w' => e = .returned (.bool (decide (vSound v))) ∧ Below w.heap.size w w' := by
  have e : r4R v.k (v.n == 0 && v.s == 0) (bs v.t).toList.isEmpty (soundS v.n v.s) v.m (decide (((bs v.t).size : Int) ≤ 256)) (goodS (bs v.t)) = decide (vSound v) := by
    rw [Bool.eq_iff_iff, decide_eq_true_iff]
    obtain ⟨k, n, s, t, m⟩ := v
    have hs : (((bs t).size : Int) ≤ 256) ↔ t.length ≤ 256 := by rw [bs_size]; omega
    unfold r4R vSound
    simp only [bs_toList]
    by_cases h0 : k = 0
    · rw [if_pos h0]
      simp [h0]
      constructor
      · rintro ⟨⟨⟨a, b⟩, c⟩, d⟩
        exact ⟨a, b, c, d⟩
      · rintro ⟨a, b, c, d⟩
        exact ⟨⟨⟨a, b⟩, c⟩, d⟩
    · rw [if_neg h0]
      by_cases h1 : k = 1
      · rw [if_pos h1]
        simp [h1]
        constructor
        · rintro ⟨⟨a, b⟩, c⟩
          exact ⟨a, b, c⟩
        · rintro ⟨a, b, c⟩
          exact ⟨⟨a, b⟩, c⟩
      · rw [if_neg h1]
        by_cases h2 : k = 2
        · rw [if_pos h2]
          simp only [Bool.and_eq_true, beq_iff_eq, decide_eq_true_iff, hs]
          subst h2
          constructor
          · rintro ⟨⟨⟨⟨a, b⟩, c⟩, d⟩, e⟩
            exact .inr (.inr (.inl ⟨rfl, a, b, c, d, e⟩))
          · rintro (h | h | h | h | h)
            · exact absurd h.1 (by decide)
            · exact absurd h.1 (by decide)
            · exact ⟨⟨⟨⟨h.2.1, h.2.2.1⟩, h.2.2.2.1⟩, h.2.2.2.2.1⟩, h.2.2.2.2.2⟩
            · exact absurd h.1 (by decide)
            · exact absurd h.1 (by decide)
        · rw [if_neg h2]
          by_cases h3 : k = 3
          · rw [if_pos h3]
            simp [h3]
            constructor
            · rintro ⟨⟨⟨a, b⟩, c⟩, d⟩
              exact ⟨a, b, c, d⟩
            · rintro ⟨a, b, c, d⟩
              exact ⟨⟨⟨a, b⟩, c⟩, d⟩
          · rw [if_neg h3]
            by_cases h4 : k = 4
            · rw [if_pos h4]
              simp [h4]
              constructor
              · rintro ⟨⟨⟨⟨a, b⟩, c⟩, d⟩, e⟩
                exact ⟨a, b, c, d, e⟩
              · rintro ⟨a, b, c, d, e⟩
                exact ⟨⟨⟨⟨a, b⟩, c⟩, d⟩, e⟩
            · rw [if_neg h4]
              simp [h0, h1, h2, h3, h4]
  have h := r4_walk v.k v.n v.s v.m (bs v.t) w _ _ (soundS v.n v.s) (goodS (bs v.t)) rfl rfl (Lib.hid fun W _ => rsound_any v.n v.s hv.n.1 hv.n.2 hv.s.1 hv.s.2 W) (Lib.hid fun hq W => rgood4_any (bs v.t) (by omega) _ rfl W)
  rw [e] at h
  exact h

set_option maxHeartbeats 16000000 in
set_option maxRecDepth 100000 in
theorem rs9_list (no : Bool) (A : Option Addr) (L : List Tst) (c : Nat) (h1 : 1 ≤ L.length) (h8 : L.length ≤ 8) (P : Tst → Bool) (S4 : Vl → Bool) (w : World) (hM : RM clT 13 w A L)
    (HP : Hid (∀ t : Tst, oneR t.k (t.lo.k == 1 || t.lo.k == 4) (S4 t.lo) (S4 t.hi) (t.hi.k == t.lo.k) (vlq t.hi.k t.hi.n t.hi.s (bs t.hi.t) t.hi.m 0 0 0 ⟨#[]⟩ 0) t.ol t.oh = P t))
    (KS : Hid (∀ t ∈ L, (∀ W, Calls Tryz.prog 39 #[.agg (cellsV t.lo)] W fun e w' => e = .returned (.bool (S4 t.lo)) ∧ Below W.heap.size W w') ∧ (∀ W, Calls Tryz.prog 39 #[.agg (cellsV t.hi)] W fun e w' => e = .returned (.bool (S4 t.hi)) ∧ Below W.heap.size W w')))
    (b : Bool) (hb : b = true ↔ ∀ t ∈ L, P t = true) :
    Calls Tryz.prog 26 #[.agg #[.bool false, .bool no, .slice A L.length c]] w fun e w' => e = .returned (.bool b) ∧ Below w.heap.size w w' := by
  have HB := Lib.hid hb
  have HM := Lib.hid hM
  have h1i : ¬ (L.length : Int) < 1 := by omega
  have h8i : ¬ (8 : Int) < (L.length : Int) := by omega
  have k0 : Blk (w.alloc (.cells #[.bool false, .bool no, .slice A L.length c] 47)) w.heap.size 47 #[.bool false, .bool no, .slice A L.length c] := Blk.new _ _ _
  clear hM hb
  go_enter Tryz.func26, Tryz.ntmps26
  go_wp2_with fail
  go_loopw [3, 4, 5] (fun i _ _ wr => ∃ k : Nat, k ≤ L.length ∧ i = .int .i64 (k : Int) ∧ Below w.heap.size w wr ∧ Blk wr w.heap.size 47 #[.bool false, .bool no, .slice A L.length c] ∧ Hid (∀ (j : Nat) (t : Tst), j < k → L[j]? = some t → P t = true)) (fun i _ _ _ => L.length - (intOf i).toNat)
  case atStart => exact ⟨0, by omega, rfl, by (repeat' (first | (with_reducible exact Below.refl _ _) | (with_reducible assumption) | (with_reducible refine balloc ?_ _) | (with_reducible refine Below.drew ?_) | (with_reducible refine bset ?_ ?_ _) | (with_reducible refine bstep ?_ (by with_reducible assumption)) | (with_reducible refine bturn ?_ (by with_reducible assumption) ?_) | go_size)), k0, Lib.hid (fun j t h => absurd h (by omega))⟩
  case round =>
    obtain ⟨k, hk, rfl, hbr, kb, HQ⟩ := hrel
    by_cases hlt : k < L.length
    · obtain ⟨t, ht⟩ : ∃ t, L[k]? = some t := ⟨L[k], List.getElem?_eq_getElem hlt⟩
      have hki : (k : Int) < (L.length : Int) := by omega
      have hk8 : k ≤ 8 := by omega
      have hmem : t ∈ L := List.mem_of_getElem? ht
      obtain ⟨ks1, ks2⟩ := KS.out t hmem
      have hp := HP.out t
      obtain ⟨pt, hpt⟩ : ∃ x, P t = x := ⟨_, rfl⟩
      have HNO : Hid (pt = false → false = b) := Lib.hid fun h => by
        cases hbb : b with
        | false => rfl
        | true =>
          have := HB.out.1 hbb t hmem
          rw [hpt, h] at this
          cases this
      have HGO : Hid (pt = true → ∀ (j : Nat) (u : Tst), j < k + 1 → L[j]? = some u → P u = true) := Lib.hid fun h j u hj hu => by
        by_cases he : j = k
        · subst he
          rw [ht] at hu
          injection hu with hu
          rw [← hu, hpt, h]
        · exact HQ.out j u (by omega) hu
      rw [hpt] at hp
      obtain ⟨g, o, rfl, HC⟩ := rmt_get HM.out ht
      obtain ⟨tk, ⟨lk, ln, ls, lt, lm⟩, ⟨xk, xn, xs, xt, xm⟩, ol, oh⟩ := t
      simp only at HC hp ks1 ks2
      obtain ⟨sl, hsl⟩ : ∃ x, S4 ⟨lk, ln, ls, lt, lm⟩ = x := ⟨_, rfl⟩
      obtain ⟨sh, hsh⟩ : ∃ x, S4 ⟨xk, xn, xs, xt, xm⟩ = x := ⟨_, rfl⟩
      obtain ⟨lq, hlq⟩ : ∃ q, bs lt = q := ⟨_, rfl⟩
      obtain ⟨xq, hhq⟩ : ∃ q, bs xt = q := ⟨_, rfl⟩
      rw [cellsV_eq hlq, hsl] at ks1
      rw [cellsV_eq hhq, hsh] at ks2
      rw [hsl, hsh, hhq] at hp
      rw [hlq, hhq] at HC
      have K1 := Lib.hid ks1
      have K2 := Lib.hid ks2
      obtain ⟨R, hR⟩ : ∃ x, (lk == 1 || lk == 4) = x := ⟨_, rfl⟩
      obtain ⟨Z, hZ⟩ : ∃ x, vlq xk xn xs xq xm 0 0 0 ⟨#[]⟩ 0 = x := ⟨_, rfl⟩
      rw [hR, hZ] at hp
      have HO := Lib.hid hp
      have HR := Lib.hid hR
      obtain ⟨c0, c1, c2, c3, c4, c5, c6, c7, c8, c9, c10, c11, c12⟩ := HC
      replace c0 := keep1 hbr c0
      replace c1 := keep1 hbr c1
      replace c2 := keep1 hbr c2
      replace c3 := keep1 hbr c3
      replace c4 := keep1 hbr c4
      replace c5 := keep1 hbr c5
      replace c6 := keep1 hbr c6
      replace c7 := keep1 hbr c7
      replace c8 := keep1 hbr c8
      replace c9 := keep1 hbr c9
      replace c10 := keep1 hbr c10
      replace c11 := keep1 hbr c11
      replace c12 := keep1 hbr c12
      have KB := Lib.hid kb
      clear hlt ht hmem ks1 ks2 hp hpt hsl hsh hlq hhq hR HQ
      have hlu := kb.lt; have hllu := lts hlu; have qu0 := kb.cell 0; have qu1 := kb.cell 1; have qu2 := kb.cell 2; simp at qu0 qu1 qu2; have zu0 := kb.frozen 0; have zu1 := kb.frozen 1; have zu2 := kb.frozen 2; have Hkb := Lib.hid kb; clear kb
      go_upto_region 9 with fail
      have kt : Blk (wr.alloc (.cells #[.int .i64 tk, .int .i64 lk, .int .i64 ln, .int .i64 ls, .string lq, .int .i64 lm, .int .i64 xk, .int .i64 xn, .int .i64 xs, .string xq, .int .i64 xm, .bool ol, .bool oh] 82)) wr.heap.size 82 #[.int .i64 tk, .int .i64 lk, .int .i64 ln, .int .i64 ls, .string lq, .int .i64 lm, .int .i64 xk, .int .i64 xn, .int .i64 xs, .string xq, .int .i64 xm, .bool ol, .bool oh] := Blk.new _ _ _
      have hbt : Below wr.heap.size wr (wr.alloc (.cells #[.int .i64 tk, .int .i64 lk, .int .i64 ln, .int .i64 ls, .string lq, .int .i64 lm, .int .i64 xk, .int .i64 xn, .int .i64 xs, .string xq, .int .i64 xm, .bool ol, .bool oh] 82)) := by (repeat' (first | (with_reducible exact Below.refl _ _) | (with_reducible assumption) | (with_reducible refine balloc ?_ _) | (with_reducible refine Below.drew ?_) | (with_reducible refine bset ?_ ?_ _) | (with_reducible refine bstep ?_ (by with_reducible assumption)) | (with_reducible refine bturn ?_ (by with_reducible assumption) ?_) | go_size))
      generalize wr.alloc (.cells #[.int .i64 tk, .int .i64 lk, .int .i64 ln, .int .i64 ls, .string lq, .int .i64 lm, .int .i64 xk, .int .i64 xn, .int .i64 xs, .string xq, .int .i64 xm, .bool ol, .bool oh] 82) = wt at *
      have kb2 := KB.out.step hbt
      have hbw : Below w.heap.size w wt := by (repeat' (first | (with_reducible exact Below.refl _ _) | (with_reducible assumption) | (with_reducible refine balloc ?_ _) | (with_reducible refine Below.drew ?_) | (with_reducible refine bset ?_ ?_ _) | (with_reducible refine bstep ?_ (by with_reducible assumption)) | (with_reducible refine bturn ?_ (by with_reducible assumption) ?_) | go_size))
      have hzt := kt.lt
      have KT := Lib.hid kt
      have KB2 := Lib.hid kb2
      clear c0 c1 c2 c3 c4 c5 c6 c7 c8 c9 c10 c11 c12 KB qu0 qu1 qu2 zu0 zu1 zu2 hlu hllu hbr hbt kb2 Hkb
      have hlx := kt.lt; have hllx := lts hlx; have qx0 := kt.cell 0; have qx1 := kt.cell 1; have qx2 := kt.cell 2; have qx3 := kt.cell 3; have qx4 := kt.cell 4; have qx5 := kt.cell 5; have qx6 := kt.cell 6; have qx7 := kt.cell 7; have qx8 := kt.cell 8; have qx9 := kt.cell 9; have qx10 := kt.cell 10; have qx11 := kt.cell 11; have qx12 := kt.cell 12; simp at qx0 qx1 qx2 qx3 qx4 qx5 qx6 qx7 qx8 qx9 qx10 qx11 qx12; have zx0 := kt.frozen 0; have zx1 := kt.frozen 1; have zx2 := kt.frozen 2; have zx3 := kt.frozen 3; have zx4 := kt.frozen 4; have zx5 := kt.frozen 5; have zx6 := kt.frozen 6; have zx7 := kt.frozen 7; have zx8 := kt.frozen 8; have zx9 := kt.frozen 9; have zx10 := kt.frozen 10; have zx11 := kt.frozen 11; have zx12 := kt.frozen 12; have Hkt := Lib.hid kt; clear kt
      go_cut [5] (fun x wx => x = .bool R ∧ wx = wt)
      case first =>
        by_cases h1 : lk = 1
        · go_wp2_with fail
          go_meet
          case rel => exact ⟨by rw [← HR.out]; simp [h1], by first | rfl | trivial⟩
        · go_wp2_with fail
          go_meet
          case rel => exact ⟨by rw [← HR.out, beq_eq_false_iff_ne.2 h1]; first | done | rfl | simp, by first | rfl | trivial⟩
      case rest =>
        obtain ⟨rfl, rfl⟩ := hcut
        go_wp2_with fail
        refine (K1.out _).mono ?_
        rintro e w2 ⟨rfl, hb2⟩
        have kt2 := KT.out.step hb2
        have KB3 := Lib.hid (KB2.out.step hb2)
        have hbw2 : Below w.heap.size w w2 := bstep hbw hb2
        have KT2 := Lib.hid kt2
        clear qx0 qx1 qx2 qx3 qx4 qx5 qx6 qx7 qx8 qx9 qx10 qx11 qx12 zx0 zx1 zx2 zx3 zx4 zx5 zx6 zx7 zx8 zx9 zx10 zx11 zx12 hlx hllx KT KB2 Hkt hbw hb2
        have hlx := kt2.lt; have hllx := lts hlx; have qx0 := kt2.cell 0; have qx1 := kt2.cell 1; have qx2 := kt2.cell 2; have qx3 := kt2.cell 3; have qx4 := kt2.cell 4; have qx5 := kt2.cell 5; have qx6 := kt2.cell 6; have qx7 := kt2.cell 7; have qx8 := kt2.cell 8; have qx9 := kt2.cell 9; have qx10 := kt2.cell 10; have qx11 := kt2.cell 11; have qx12 := kt2.cell 12; simp at qx0 qx1 qx2 qx3 qx4 qx5 qx6 qx7 qx8 qx9 qx10 qx11 qx12; have zx0 := kt2.frozen 0; have zx1 := kt2.frozen 1; have zx2 := kt2.frozen 2; have zx3 := kt2.frozen 3; have zx4 := kt2.frozen 4; have zx5 := kt2.frozen 5; have zx6 := kt2.frozen 6; have zx7 := kt2.frozen 7; have zx8 := kt2.frozen 8; have zx9 := kt2.frozen 9; have zx10 := kt2.frozen 10; have zx11 := kt2.frozen 11; have zx12 := kt2.frozen 12; have Hkt2 := Lib.hid kt2; clear kt2
        cases sl with
        | false =>
          have HX := Lib.hid (HNO.out (by rw [← HO.out]; simp [oneR]))
          go_wp2_with fail
          go_returns
          exact ⟨by rw [← HX.out]; first | done | rfl, by (repeat' (first | (with_reducible exact Below.refl _ _) | (with_reducible assumption) | (with_reducible refine balloc ?_ _) | (with_reducible refine Below.drew ?_) | (with_reducible refine bset ?_ ?_ _) | (with_reducible refine bstep ?_ (by with_reducible assumption)) | (with_reducible refine bturn ?_ (by with_reducible assumption) ?_) | go_size))⟩
        | true =>
          go_wp2_with fail
          refine (K2.out _).mono ?_
          rintro e w3 ⟨rfl, hb3⟩
          have kt3 := KT2.out.step hb3
          replace KB3 := Lib.hid (KB3.out.step hb3)
          have hbw3 : Below w.heap.size w w3 := bstep hbw2 hb3
          clear qx0 qx1 qx2 qx3 qx4 qx5 qx6 qx7 qx8 qx9 qx10 qx11 qx12 zx0 zx1 zx2 zx3 zx4 zx5 zx6 zx7 zx8 zx9 zx10 zx11 zx12 hlx hllx KT2 Hkt2 hbw2 hb3
          have hlx := kt3.lt; have hllx := lts hlx; have qx0 := kt3.cell 0; have qx1 := kt3.cell 1; have qx2 := kt3.cell 2; have qx3 := kt3.cell 3; have qx4 := kt3.cell 4; have qx5 := kt3.cell 5; have qx6 := kt3.cell 6; have qx7 := kt3.cell 7; have qx8 := kt3.cell 8; have qx9 := kt3.cell 9; have qx10 := kt3.cell 10; have qx11 := kt3.cell 11; have qx12 := kt3.cell 12; simp at qx0 qx1 qx2 qx3 qx4 qx5 qx6 qx7 qx8 qx9 qx10 qx11 qx12; have zx0 := kt3.frozen 0; have zx1 := kt3.frozen 1; have zx2 := kt3.frozen 2; have zx3 := kt3.frozen 3; have zx4 := kt3.frozen 4; have zx5 := kt3.frozen 5; have zx6 := kt3.frozen 6; have zx7 := kt3.frozen 7; have zx8 := kt3.frozen 8; have zx9 := kt3.frozen 9; have zx10 := kt3.frozen 10; have zx11 := kt3.frozen 11; have zx12 := kt3.frozen 12; have Hkt3 := Lib.hid kt3; clear kt3
          cases sh with
          | false =>
            have HX := Lib.hid (HNO.out (by rw [← HO.out]; simp [oneR]))
            go_wp2_with fail
            go_returns
            exact ⟨by rw [← HX.out]; first | done | rfl, by (repeat' (first | (with_reducible exact Below.refl _ _) | (with_reducible assumption) | (with_reducible refine balloc ?_ _) | (with_reducible refine Below.drew ?_) | (with_reducible refine bset ?_ ?_ _) | (with_reducible refine bstep ?_ (by with_reducible assumption)) | (with_reducible refine bturn ?_ (by with_reducible assumption) ?_) | go_size))⟩
          | true =>
            by_cases t1 : tk < 1
            · have HX := Lib.hid (HNO.out (by rw [← HO.out]; unfold oneR; rw [if_neg (by omega), decide_eq_false (by omega)]; simp))
              go_wp2_with fail
              go_returns
              exact ⟨by rw [← HX.out]; first | done | rfl, by (repeat' (first | (with_reducible exact Below.refl _ _) | (with_reducible assumption) | (with_reducible refine balloc ?_ _) | (with_reducible refine Below.drew ?_) | (with_reducible refine bset ?_ ?_ _) | (with_reducible refine bstep ?_ (by with_reducible assumption)) | (with_reducible refine bturn ?_ (by with_reducible assumption) ?_) | go_size))⟩
            by_cases t2 : 6 < tk
            · have HX := Lib.hid (HNO.out (by rw [← HO.out]; unfold oneR; rw [if_neg (by omega), decide_eq_false (show ¬ tk < 6 by omega)]; simp))
              go_wp2_with fail
              go_returns
              exact ⟨by rw [← HX.out]; first | done | rfl, by (repeat' (first | (with_reducible exact Below.refl _ _) | (with_reducible assumption) | (with_reducible refine balloc ?_ _) | (with_reducible refine Below.drew ?_) | (with_reducible refine bset ?_ ?_ _) | (with_reducible refine bstep ?_ (by with_reducible assumption)) | (with_reducible refine bturn ?_ (by with_reducible assumption) ?_) | go_size))⟩
            by_cases t3 : tk = 1
            · subst t3
              cases Z with
              | false =>
                have HX := Lib.hid (HNO.out (by rw [← HO.out]; unfold oneR; rw [if_neg (by omega)]; simp))
                go_wp2_with fail
                go_returns
                exact ⟨by rw [← HX.out]; first | done | rfl, by (repeat' (first | (with_reducible exact Below.refl _ _) | (with_reducible assumption) | (with_reducible refine balloc ?_ _) | (with_reducible refine Below.drew ?_) | (with_reducible refine bset ?_ ?_ _) | (with_reducible refine bstep ?_ (by with_reducible assumption)) | (with_reducible refine bturn ?_ (by with_reducible assumption) ?_) | go_size))⟩
              | true =>
                cases ol with
                | true =>
                  have HX := Lib.hid (HNO.out (by rw [← HO.out]; unfold oneR; rw [if_neg (by omega)]; simp))
                  go_wp2_with fail
                  go_returns
                  exact ⟨by rw [← HX.out]; first | done | rfl, by (repeat' (first | (with_reducible exact Below.refl _ _) | (with_reducible assumption) | (with_reducible refine balloc ?_ _) | (with_reducible refine Below.drew ?_) | (with_reducible refine bset ?_ ?_ _) | (with_reducible refine bstep ?_ (by with_reducible assumption)) | (with_reducible refine bturn ?_ (by with_reducible assumption) ?_) | go_size))⟩
                | false =>
                  cases oh with
                  | true =>
                    have HX := Lib.hid (HNO.out (by rw [← HO.out]; unfold oneR; rw [if_neg (by omega)]; simp))
                    go_wp2_with fail
                    go_returns
                    exact ⟨by rw [← HX.out]; first | done | rfl, by (repeat' (first | (with_reducible exact Below.refl _ _) | (with_reducible assumption) | (with_reducible refine balloc ?_ _) | (with_reducible refine Below.drew ?_) | (with_reducible refine bset ?_ ?_ _) | (with_reducible refine bstep ?_ (by with_reducible assumption)) | (with_reducible refine bturn ?_ (by with_reducible assumption) ?_) | go_size))⟩
                  | false =>
                    have HX := Lib.hid (HGO.out (by rw [← HO.out]; unfold oneR; rw [if_neg (by omega)]; simp))
                    go_wp2_with fail
                    go_roundw
                    case rel => exact ⟨k + 1, by omega, by go_num, by (repeat' (first | (with_reducible exact Below.refl _ _) | (with_reducible assumption) | (with_reducible refine balloc ?_ _) | (with_reducible refine Below.drew ?_) | (with_reducible refine bset ?_ ?_ _) | (with_reducible refine bstep ?_ (by with_reducible assumption)) | (with_reducible refine bturn ?_ (by with_reducible assumption) ?_) | go_size)), KB3.out, HX⟩
                    case measure => simp [intOf]; omega
            have t3b : (tk != 1) = true := by simpa using t3
            cases R with
            | false =>
              have HX := Lib.hid (HNO.out (by rw [← HO.out]; unfold oneR; split <;> simp; omega))
              go_wp2_with fail
              go_returns
              exact ⟨by rw [← HX.out]; first | done | rfl, by (repeat' (first | (with_reducible exact Below.refl _ _) | (with_reducible assumption) | (with_reducible refine balloc ?_ _) | (with_reducible refine Below.drew ?_) | (with_reducible refine bset ?_ ?_ _) | (with_reducible refine bstep ?_ (by with_reducible assumption)) | (with_reducible refine bturn ?_ (by with_reducible assumption) ?_) | go_size))⟩
            | true =>
              by_cases t6 : tk = 6
              · subst t6
                by_cases hkk : xk = lk
                · have hkb : (xk != lk) = false := by simpa using hkk
                  have HX := Lib.hid (HGO.out (by rw [← HO.out]; unfold oneR; rw [if_pos rfl]; simp [hkk]))
                  go_wp2_with fail
                  go_roundw
                  case rel => exact ⟨k + 1, by omega, by go_num, by (repeat' (first | (with_reducible exact Below.refl _ _) | (with_reducible assumption) | (with_reducible refine balloc ?_ _) | (with_reducible refine Below.drew ?_) | (with_reducible refine bset ?_ ?_ _) | (with_reducible refine bstep ?_ (by with_reducible assumption)) | (with_reducible refine bturn ?_ (by with_reducible assumption) ?_) | go_size)), KB3.out, HX⟩
                  case measure => simp [intOf]; omega
                · have hkb : (xk != lk) = true := by simpa using hkk
                  have HX := Lib.hid (HNO.out (by rw [← HO.out]; unfold oneR; rw [if_pos rfl]; simp [hkk]))
                  go_wp2_with fail
                  go_returns
                  exact ⟨by rw [← HX.out]; first | done | rfl, by (repeat' (first | (with_reducible exact Below.refl _ _) | (with_reducible assumption) | (with_reducible refine balloc ?_ _) | (with_reducible refine Below.drew ?_) | (with_reducible refine bset ?_ ?_ _) | (with_reducible refine bstep ?_ (by with_reducible assumption)) | (with_reducible refine bturn ?_ (by with_reducible assumption) ?_) | go_size))⟩
              · have t7 : ¬ tk < 1 := t1
                have HK := Lib.hid (show 1 ≤ tk ∧ tk < 6 from ⟨by omega, by omega⟩)
                cases Z with
                | false =>
                  have HX := Lib.hid (HNO.out (by rw [← HO.out]; unfold oneR; rw [if_neg (by omega), decide_eq_true HK.out.1, decide_eq_true HK.out.2]; simp))
                  go_wp2_with fail
                  go_returns
                  exact ⟨by rw [← HX.out]; first | done | rfl, by (repeat' (first | (with_reducible exact Below.refl _ _) | (with_reducible assumption) | (with_reducible refine balloc ?_ _) | (with_reducible refine Below.drew ?_) | (with_reducible refine bset ?_ ?_ _) | (with_reducible refine bstep ?_ (by with_reducible assumption)) | (with_reducible refine bturn ?_ (by with_reducible assumption) ?_) | go_size))⟩
                | true =>
                  cases ol with
                  | true =>
                    have HX := Lib.hid (HNO.out (by rw [← HO.out]; unfold oneR; rw [if_neg (by omega), decide_eq_true HK.out.1, decide_eq_true HK.out.2]; simp))
                    go_wp2_with fail
                    go_returns
                    exact ⟨by rw [← HX.out]; first | done | rfl, by (repeat' (first | (with_reducible exact Below.refl _ _) | (with_reducible assumption) | (with_reducible refine balloc ?_ _) | (with_reducible refine Below.drew ?_) | (with_reducible refine bset ?_ ?_ _) | (with_reducible refine bstep ?_ (by with_reducible assumption)) | (with_reducible refine bturn ?_ (by with_reducible assumption) ?_) | go_size))⟩
                  | false =>
                    cases oh with
                    | true =>
                      have HX := Lib.hid (HNO.out (by rw [← HO.out]; unfold oneR; rw [if_neg (by omega), decide_eq_true HK.out.1, decide_eq_true HK.out.2]; simp))
                      go_wp2_with fail
                      go_returns
                      exact ⟨by rw [← HX.out]; first | done | rfl, by (repeat' (first | (with_reducible exact Below.refl _ _) | (with_reducible assumption) | (with_reducible refine balloc ?_ _) | (with_reducible refine Below.drew ?_) | (with_reducible refine bset ?_ ?_ _) | (with_reducible refine bstep ?_ (by with_reducible assumption)) | (with_reducible refine bturn ?_ (by with_reducible assumption) ?_) | go_size))⟩
                    | false =>
                      have HX := Lib.hid (HGO.out (by rw [← HO.out]; unfold oneR; rw [if_neg (by omega), decide_eq_true HK.out.1, decide_eq_true HK.out.2]; simp))
                      go_wp2_with fail
                      go_roundw
                      case rel => exact ⟨k + 1, by omega, by go_num, by (repeat' (first | (with_reducible exact Below.refl _ _) | (with_reducible assumption) | (with_reducible refine balloc ?_ _) | (with_reducible refine Below.drew ?_) | (with_reducible refine bset ?_ ?_ _) | (with_reducible refine bstep ?_ (by with_reducible assumption)) | (with_reducible refine bturn ?_ (by with_reducible assumption) ?_) | go_size)), KB3.out, HX⟩
                      case measure => simp [intOf]; omega
    · obtain rfl : k = L.length := by omega
      have HX : Hid (true = b) := Lib.hid (by
        refine (HB.out.2 fun t ht => ?_).symm
        obtain ⟨j, hj⟩ := List.mem_iff_getElem?.1 ht
        exact HQ.out j t (List.getElem?_eq_some_iff.1 hj).1 hj)
      clear hlt
      have hlu := kb.lt; have hllu := lts hlu; have qu0 := kb.cell 0; have qu1 := kb.cell 1; have qu2 := kb.cell 2; simp at qu0 qu1 qu2; have zu0 := kb.frozen 0; have zu1 := kb.frozen 1; have zu2 := kb.frozen 2; have Hkb := Lib.hid kb; clear kb
      go_wp2_with fail
      go_returns
      exact ⟨by rw [← HX.out]; first | done | rfl, by (repeat' (first | (with_reducible exact Below.refl _ _) | (with_reducible assumption) | (with_reducible refine balloc ?_ _) | (with_reducible refine Below.drew ?_) | (with_reducible refine bset ?_ ?_ _) | (with_reducible refine bstep ?_ (by with_reducible assumption)) | (with_reducible refine bturn ?_ (by with_reducible assumption) ?_) | go_size))⟩
set_option maxHeartbeats 8000000 in
set_option maxRecDepth 100000 in
theorem rs9_any (no : Bool) (A : Option Addr) (n c : Nat) (w : World) :
    Calls Tryz.prog 26 #[.agg #[.bool true, .bool no, .slice A n c]] w fun e w' => e = .returned (.bool (!no && (n : Int) == 0)) ∧ Below w.heap.size w w' := by
  cases no
  all_goals
    go_enter Tryz.func26, Tryz.ntmps26
    go_wp2_with fail
    go_returns
    refine ⟨?_, by (repeat' (first | (with_reducible exact Below.refl _ _) | (with_reducible assumption) | (with_reducible refine balloc ?_ _) | (with_reducible refine Below.drew ?_) | (with_reducible refine bset ?_ ?_ _) | (with_reducible refine bstep ?_ (by with_reducible assumption)) | (with_reducible refine bturn ?_ (by with_reducible assumption) ?_) | go_size))⟩
    simp
set_option maxHeartbeats 8000000 in
set_option maxRecDepth 100000 in
theorem rs9_len (no : Bool) (A : Option Addr) (n c : Nat) (hn : n < 1 ∨ 8 < n) (w : World) :
    Calls Tryz.prog 26 #[.agg #[.bool false, .bool no, .slice A n c]] w fun e w' => e = .returned (.bool false) ∧ Below w.heap.size w w' := by
  rcases hn with hn | hn
  · have h1 : (n : Int) < 1 := by omega
    clear hn
    go_enter Tryz.func26, Tryz.ntmps26
    go_wp2_with fail
    go_returns
    exact ⟨rfl, by (repeat' (first | (with_reducible exact Below.refl _ _) | (with_reducible assumption) | (with_reducible refine balloc ?_ _) | (with_reducible refine Below.drew ?_) | (with_reducible refine bset ?_ ?_ _) | (with_reducible refine bstep ?_ (by with_reducible assumption)) | (with_reducible refine bturn ?_ (by with_reducible assumption) ?_) | go_size))⟩
  · have h1 : ¬ (n : Int) < 1 := by omega
    have h8 : (8 : Int) < (n : Int) := by omega
    clear hn
    go_enter Tryz.func26, Tryz.ntmps26
    go_wp2_with fail
    go_returns
    exact ⟨rfl, by (repeat' (first | (with_reducible exact Below.refl _ _) | (with_reducible assumption) | (with_reducible refine balloc ?_ _) | (with_reducible refine Below.drew ?_) | (with_reducible refine bset ?_ ?_ _) | (with_reducible refine bstep ?_ (by with_reducible assumption)) | (with_reducible refine bturn ?_ (by with_reducible assumption) ?_) | go_size))⟩
open Classical in
theorem rs9 (t : Tsts) (A : Option Addr) (c : Nat) (w : World) (hM : RM clT 13 w A t.l) (hok : ∀ u ∈ t.l, TOk u) :
    Calls Tryz.prog 26 #[.agg #[.bool t.any, .bool t.no, .slice A t.l.length c]] w fun e w' => e = .returned (.bool (decide (tsSound t))) ∧ Below w.heap.size w w' := by
  obtain ⟨any, no, L⟩ := t
  simp only at hM hok ⊢
  cases any with
  | true =>
    have h := rs9_any no A L.length c w
    have e : (!no && (L.length : Int) == 0) = decide (tsSound ⟨true, no, L⟩) := by
      rw [Bool.eq_iff_iff, decide_eq_true_iff]
      unfold tsSound
      rw [if_pos rfl, Bool.and_eq_true]
      refine and_congr (by simp) ?_
      rw [beq_iff_eq]
      constructor
      · intro h
        exact List.eq_nil_of_length_eq_zero (show L.length = 0 by omega)
      · intro h
        have h2 : L = [] := h
        rw [h2]
        rfl
    rw [e] at h
    exact h
  | false =>
    by_cases hn : L.length < 1 ∨ 8 < L.length
    · have h := rs9_len no A L.length c hn w
      have e : decide (tsSound ⟨false, no, L⟩) = false := decide_eq_false (by
        unfold tsSound
        rw [if_neg (by simp)]
        rintro ⟨h1, h2, _⟩
        simp only at h1 h2
        omega)
      rw [e]
      exact h
    · refine rs9_list no A L c (by omega) (by omega) (fun t => decide (tSound t)) (fun v => decide (vSound v)) w hM (Lib.hid fun t => oneR_eq t) (Lib.hid fun u hu => ⟨fun W => r4_any u.lo (hok u hu).lo W, fun W => r4_any u.hi (hok u hu).hi W⟩) _ ?_
      rw [decide_eq_true_iff]
      unfold tsSound
      rw [if_neg (by simp)]
      constructor
      · rintro ⟨_, _, h⟩ u hu
        exact decide_eq_true (h u hu)
      · intro h
        exact ⟨by show 1 ≤ L.length; omega, by show L.length ≤ 8; omega, fun u hu => of_decide_eq_true (h u hu)⟩
end Go.Proofs.YtkkeplmaphcblaaGreatDoor
