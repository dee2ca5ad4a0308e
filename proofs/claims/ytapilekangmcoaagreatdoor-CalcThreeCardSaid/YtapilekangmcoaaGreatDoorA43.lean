/- The walk of the reference's value.Sound (layer 4). What the reference's value.Sound (layer 4) says, in plain words. -/
import Derived.Test.YtapilekangmcoaaGreatDoorA42
import Derived.Test.YtapilekangmcoaaGreatDoorA10
import Derived.Test.YtapilekangmcoaaGreatDoorA22
set_option linter.unusedVariables false
set_option linter.unusedSimpArgs false
set_option maxHeartbeats 8000000
set_option maxRecDepth 100000
namespace Go.Proofs.YtapilekangmcoaaGreatDoor
open Go.RowKit
def r4R (k : Int) (N E sd : Bool) (m : Int) (sz gd : Bool) : Bool :=
 if k = 0 then N && E && m == 0 else if k = 1 then sd && E && m == 0 else if k = 2 then N && m == 0 && sz && gd else if k = 3 then N && E && (m == 0 || m == 1) else if k = 4 then N && E && decide (0 ≤ m) && decide (m ≤ 3652058) else false
section
variable (k n s m : Int) (q : ByteArray) (w : World) (N E sd gd : Bool)
set_option maxHeartbeats 16000000 in
theorem r4_walk (hN : (n == 0 && s == 0) = N) (hE : q.toList.isEmpty = E)
   (KD : Hid (∀ W, Below w.heap.size w W → Calls Tryz.prog 44 #[.agg #[.int .i64 n, .int .i64 s]] W fun e w' => e = .returned (.bool sd) ∧ Below W.heap.size W w'))
   (KG : Hid ((q.size : Int) ≤ 256 → ∀ W, Calls Tryz.prog 45 #[.string q] W fun e w' => e = .returned (.bool gd) ∧ W = w')) :
   Calls Tryz.prog 22 #[.agg #[.int .i64 k, .int .i64 n, .int .i64 s, .string q, .int .i64 m]] w fun e w' => e = .returned (.bool (r4R k N E sd m (decide ((q.size : Int) ≤ 256)) gd)) ∧ Below w.heap.size w w' := by
 have HN := Lib.hid hN
 clear hN
 go_enter Tryz.func22, Tryz.ntmps22
 go_upto_region 1 with fail
 go_cut [3] (fun x wx => x = .bool N ∧ wx = w.alloc (.cells #[.int .i64 k, .int .i64 n, .int .i64 s, .string q, .int .i64 m] 25))
 case first =>
   by_cases h1 : n = 0
   · subst h1
     go_wp2_with fail
     go_meet
     case rel => exact ⟨by rw [← HN.out]; rfl, rfl⟩
   · go_wp2_with fail
     go_meet
     case rel => exact ⟨by rw [← HN.out, beq_eq_false_iff_ne.2 h1]; first | done | rfl, rfl⟩
 case rest =>
   obtain ⟨rfl, rfl⟩ := hcut
   by_cases k0 : k = 0
   · subst k0
     cases N
     case' true => cases E
     all_goals
       go_wp2_with fail
       go_returns
       refine ⟨?_, by (repeat' first | (with_reducible first | exact .refl _ _ | assumption | apply balloc | apply Below.drew | apply bset | refine bstep ?_ ‹_› | refine bturn ?_ ‹_› ?_) | go_size)⟩
       simp [r4R]
   by_cases k1 : k = 1
   · subst k1
     have kb : Blk (w.alloc (.cells #[.int .i64 1, .int .i64 n, .int .i64 s, .string q, .int .i64 m] 25)) w.heap.size 25 #[.int .i64 1, .int .i64 n, .int .i64 s, .string q, .int .i64 m] := Blk.new _ _ _
     go_wp2_with fail
     refine (KD.out _ (by (repeat' first | (with_reducible first | exact .refl _ _ | assumption | apply balloc | apply Below.drew | apply bset | refine bstep ?_ ‹_› | refine bturn ?_ ‹_› ?_) | go_size))).mono ?_
     rintro e w1 ⟨rfl, hb1⟩
     have kb1 := kb.step hb1
     have hb01 : Below w.heap.size w w1 := by (repeat' first | (with_reducible first | exact .refl _ _ | assumption | apply balloc | apply Below.drew | apply bset | refine bstep ?_ ‹_› | refine bturn ?_ ‹_› ?_) | go_size)
     clear kb hb1
     obtain ⟨hlu, hllu, qu0, qu1, qu2, qu3, qu4, zu0, zu1, zu2, zu3, zu4⟩ := bf5 kb1; (try simp at qu0 qu1 qu2 qu3 qu4); have Hkb1 := Lib.hid kb1; clear kb1
     cases sd
     case' true => cases E
     all_goals
       go_wp2_with fail
       go_returns
       refine ⟨?_, by (repeat' first | (with_reducible first | exact .refl _ _ | assumption | apply balloc | apply Below.drew | apply bset | refine bstep ?_ ‹_› | refine bturn ?_ ‹_› ?_) | go_size)⟩
       simp [r4R]
   by_cases k2 : k = 2
   · subst k2
     cases N with
     | false =>
       go_wp2_with fail
       go_returns
       refine ⟨?_, by (repeat' first | (with_reducible first | exact .refl _ _ | assumption | apply balloc | apply Below.drew | apply bset | refine bstep ?_ ‹_› | refine bturn ?_ ‹_› ?_) | go_size)⟩
       simp [r4R]
     | true =>
       by_cases hm : m = 0
       · subst hm
         by_cases hq : (q.size : Int) ≤ 256
         · have KG1 := Lib.hid (KG.out hq)
           have HQ : Hid (decide ((q.size : Int) ≤ 256) = true) := Lib.hid (decide_eq_true hq)
           go_wp2_with fail
           refine (KG1.out _).mono ?_
           rintro e w1 ⟨rfl, rfl⟩
           go_wp2_with fail
           go_returns
           refine ⟨?_, by (repeat' first | (with_reducible first | exact .refl _ _ | assumption | apply balloc | apply Below.drew | apply bset | refine bstep ?_ ‹_› | refine bturn ?_ ‹_› ?_) | go_size)⟩
           rw [HQ.out]
           simp [r4R]
         · have HQ : Hid (decide ((q.size : Int) ≤ 256) = false) := Lib.hid (decide_eq_false hq)
           go_wp2_with fail
           go_returns
           refine ⟨?_, by (repeat' first | (with_reducible first | exact .refl _ _ | assumption | apply balloc | apply Below.drew | apply bset | refine bstep ?_ ‹_› | refine bturn ?_ ‹_› ?_) | go_size)⟩
           rw [HQ.out]
           simp [r4R]
       · have HM := Lib.hid (beq_eq_false_iff_ne.2 hm)
         go_wp2_with fail
         go_returns
         refine ⟨?_, by (repeat' first | (with_reducible first | exact .refl _ _ | assumption | apply balloc | apply Below.drew | apply bset | refine bstep ?_ ‹_› | refine bturn ?_ ‹_› ?_) | go_size)⟩
         simp [r4R]
         intro h
         exact absurd h hm
   by_cases k3 : k = 3
   · subst k3
     cases N
     case' true => cases E
     case' true.true => by_cases hm : m = 0
     all_goals
       go_wp2_with fail
       go_returns
       refine ⟨?_, by (repeat' first | (with_reducible first | exact .refl _ _ | assumption | apply balloc | apply Below.drew | apply bset | refine bstep ?_ ‹_› | refine bturn ?_ ‹_› ?_) | go_size)⟩
       first | (simp [r4R]; done) | simp [r4R, hm]
   by_cases k4 : k = 4
   · subst k4
     cases N
     case' true => cases E
     case' true.true => by_cases hm : 0 ≤ m
     all_goals
       try have HM := Lib.hid hm
       go_wp2_with fail
       go_returns
       refine ⟨?_, by (repeat' first | (with_reducible first | exact .refl _ _ | assumption | apply balloc | apply Below.drew | apply bset | refine bstep ?_ ‹_› | refine bturn ?_ ‹_› ?_) | go_size)⟩
       first | (simp [r4R]; done) | (simp [r4R]; omega)
   · have HK := Lib.hid (And.intro k0 (And.intro k1 (And.intro k2 (And.intro k3 k4))))
     go_wp2_with fail
     go_returns
     refine ⟨?_, by (repeat' first | (with_reducible first | exact .refl _ _ | assumption | apply balloc | apply Below.drew | apply bset | refine bstep ?_ ‹_› | refine bturn ?_ ‹_› ?_) | go_size)⟩
     unfold r4R
     obtain ⟨g0, g1, g2, g3, g4⟩ := HK.out
     rw [if_neg g0, if_neg g1, if_neg g2, if_neg g3, if_neg g4]
     try rfl
end
end Go.Proofs.YtapilekangmcoaaGreatDoor
namespace Go.Proofs.YtapilekangmcoaaGreatDoor
open Go.RowKit
open Classical in
theorem r4_any (v : Vl) (hv : VOk v) (w : World) :
   Calls Tryz.prog 22 #[.agg (cellsV v)] w fun e w' => e = .returned (.bool (decide (vSound v))) ∧ Below w.heap.size w w' := by
 have e : r4R v.k (v.n == 0 && v.s == 0) (bs v.t).toList.isEmpty (soundS v.n v.s) v.m (decide (((bs v.t).size : Int) ≤ 256)) (goodS (bs v.t)) = decide (vSound v) := by
   rw [Bool.eq_iff_iff, decide_eq_true_iff]
   obtain ⟨k, n, s, t, m⟩ := v
   have hs : (((bs t).size : Int) ≤ 256) ↔ t.length ≤ 256 := by rw [bs_size]; omega
   unfold r4R vSound
   simp only [bs_toList]
   by_cases h0 : k = 0
   · rw [if_pos h0]
     simp [h0]
     constructor
     · rintro ⟨⟨⟨a, b⟩, c⟩, d⟩
       exact ⟨a, b, c, d⟩
     · rintro ⟨a, b, c, d⟩
       exact ⟨⟨⟨a, b⟩, c⟩, d⟩
   · rw [if_neg h0]
     by_cases h1 : k = 1
     · rw [if_pos h1]
       simp [h1]
       constructor
       · rintro ⟨⟨a, b⟩, c⟩
         exact ⟨a, b, c⟩
       · rintro ⟨a, b, c⟩
         exact ⟨⟨a, b⟩, c⟩
     · rw [if_neg h1]
       by_cases h2 : k = 2
       · rw [if_pos h2]
         simp only [Bool.and_eq_true, beq_iff_eq, decide_eq_true_iff, hs]
         subst h2
         constructor
         · rintro ⟨⟨⟨⟨a, b⟩, c⟩, d⟩, e⟩
           exact .inr (.inr (.inl ⟨rfl, a, b, c, d, e⟩))
         · rintro (h | h | h | h | h)
           · exact absurd h.1 (by decide)
           · exact absurd h.1 (by decide)
           · exact ⟨⟨⟨⟨h.2.1, h.2.2.1⟩, h.2.2.2.1⟩, h.2.2.2.2.1⟩, h.2.2.2.2.2⟩
           · exact absurd h.1 (by decide)
           · exact absurd h.1 (by decide)
       · rw [if_neg h2]
         by_cases h3 : k = 3
         · rw [if_pos h3]
           simp [h3]
           constructor
           · rintro ⟨⟨⟨a, b⟩, c⟩, d⟩
             exact ⟨a, b, c, d⟩
           · rintro ⟨a, b, c, d⟩
             exact ⟨⟨⟨a, b⟩, c⟩, d⟩
         · rw [if_neg h3]
           by_cases h4 : k = 4
           · rw [if_pos h4]
             simp [h4]
             constructor
             · rintro ⟨⟨⟨⟨a, b⟩, c⟩, d⟩, e⟩
               exact ⟨a, b, c, d, e⟩
             · rintro ⟨a, b, c, d, e⟩
               exact ⟨⟨⟨⟨a, b⟩, c⟩, d⟩, e⟩
           · rw [if_neg h4]
             simp [h0, h1, h2, h3, h4]
 have h := r4_walk v.k v.n v.s v.m (bs v.t) w _ _ (soundS v.n v.s) (goodS (bs v.t)) rfl rfl (Lib.hid fun W _ => rsound_any v.n v.s hv.n.1 hv.n.2 hv.s.1 hv.s.2 W) (Lib.hid fun hq W => rgood4_any (bs v.t) (by omega) _ rfl W)
 rw [e] at h
 exact h
end Go.Proofs.YtapilekangmcoaaGreatDoor
