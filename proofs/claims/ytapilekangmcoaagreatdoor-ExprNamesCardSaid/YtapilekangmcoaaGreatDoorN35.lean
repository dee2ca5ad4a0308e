/- The walk of the reference's value.Sound (layer 4). What the reference's value.Sound (layer 4) says, in plain words. The walk of the reference's Sound of expressions (layer 8). Printed by genrs.py. The reference's Sound of expressions (layer 8), for every expression. -/
import Derived.Test.YtapilekangmcoaaGreatDoorN34
import Derived.Test.YtapilekangmcoaaGreatDoorN10
import Derived.Test.YtapilekangmcoaaGreatDoorN22
import Derived.Test.YtapilekangmcoaaGreatDoorN23
import Derived.Test.YtapilekangmcoaaGreatDoorN6
set_option linter.unusedVariables false
set_option linter.unusedSimpArgs false
set_option maxHeartbeats 8000000
set_option maxRecDepth 100000
namespace Go.Proofs.YtapilekangmcoaaGreatDoor
open Go.RowKit
def r4R (k : Int) (N E sd : Bool) (m : Int) (sz gd : Bool) : Bool :=
 if k = 0 then N && E && m == 0 else if k = 1 then sd && E && m == 0 else if k = 2 then N && m == 0 && sz && gd else if k = 3 then N && E && (m == 0 || m == 1) else if k = 4 then N && E && decide (0 ≤ m) && decide (m ≤ 3652058) else false
section
variable (k n s m : Int) (q : ByteArray) (w : World) (N E sd gd : Bool)
set_option maxHeartbeats 16000000 in
theorem r4_walk (hN : (n == 0 && s == 0) = N) (hE : q.toList.isEmpty = E)
   (KD : Hid (∀ W, Below w.heap.size w W → Calls Tryz.prog 44 #[.agg #[.int .i64 n, .int .i64 s]] W fun e w' => e = .returned (.bool sd) ∧ Below W.heap.size W w'))
   (KG : Hid ((q.size : Int) ≤ 256 → ∀ W, Calls Tryz.prog 45 #[.string q] W fun e w' => e = .returned (.bool gd) ∧ W = w')) :
   Calls Tryz.prog 22 #[.agg #[.int .i64 k, .int .i64 n, .int .i64 s, .string q, .int .i64 m]] w fun e w' => e = .returned (.bool (r4R k N E sd m (decide ((q.size : Int) ≤ 256)) gd)) ∧ Below w.heap.size w w' := by
 have HN := Lib.hid hN
 clear hN
 go_enter Tryz.func22, Tryz.ntmps22
 go_upto_region 1 with fail
 go_cut [3] (fun x wx => x = .bool N ∧ wx = w.alloc (.cells #[.int .i64 k, .int .i64 n, .int .i64 s, .string q, .int .i64 m] 25))
 case first =>
   by_cases h1 : n = 0
   · subst h1
     go_wp2_with fail
     go_meet
     case rel => exact ⟨by rw [← HN.out]; rfl, rfl⟩
   · go_wp2_with fail
     go_meet
     case rel => exact ⟨by rw [← HN.out, beq_eq_false_iff_ne.2 h1]; first | done | rfl, rfl⟩
 case rest =>
   obtain ⟨rfl, rfl⟩ := hcut
   by_cases k0 : k = 0
   · subst k0
     cases N
     case' true => cases E
     all_goals
       go_wp2_with fail
       go_returns
       refine ⟨?_, by (repeat' first | (with_reducible first | exact .refl _ _ | assumption | apply balloc | apply Below.drew | apply bset | refine bstep ?_ ‹_› | refine bturn ?_ ‹_› ?_) | go_size)⟩
       simp [r4R]
   by_cases k1 : k = 1
   · subst k1
     have kb : Blk (w.alloc (.cells #[.int .i64 1, .int .i64 n, .int .i64 s, .string q, .int .i64 m] 25)) w.heap.size 25 #[.int .i64 1, .int .i64 n, .int .i64 s, .string q, .int .i64 m] := Blk.new _ _ _
     go_wp2_with fail
     refine (KD.out _ (by (repeat' first | (with_reducible first | exact .refl _ _ | assumption | apply balloc | apply Below.drew | apply bset | refine bstep ?_ ‹_› | refine bturn ?_ ‹_› ?_) | go_size))).mono ?_
     rintro e w1 ⟨rfl, hb1⟩
     have kb1 := kb.step hb1
     have hb01 : Below w.heap.size w w1 := by (repeat' first | (with_reducible first | exact .refl _ _ | assumption | apply balloc | apply Below.drew | apply bset | refine bstep ?_ ‹_› | refine bturn ?_ ‹_› ?_) | go_size)
     clear kb hb1
     obtain ⟨hlu, hllu, qu0, qu1, qu2, qu3, qu4, zu0, zu1, zu2, zu3, zu4⟩ := bf5 kb1; (try simp at qu0 qu1 qu2 qu3 qu4); have Hkb1 := Lib.hid kb1; clear kb1
     cases sd
     case' true => cases E
     all_goals
       go_wp2_with fail
       go_returns
       refine ⟨?_, by (repeat' first | (with_reducible first | exact .refl _ _ | assumption | apply balloc | apply Below.drew | apply bset | refine bstep ?_ ‹_› | refine bturn ?_ ‹_› ?_) | go_size)⟩
       simp [r4R]
   by_cases k2 : k = 2
   · subst k2
     cases N with
     | false =>
       go_wp2_with fail
       go_returns
       refine ⟨?_, by (repeat' first | (with_reducible first | exact .refl _ _ | assumption | apply balloc | apply Below.drew | apply bset | refine bstep ?_ ‹_› | refine bturn ?_ ‹_› ?_) | go_size)⟩
       simp [r4R]
     | true =>
       by_cases hm : m = 0
       · subst hm
         by_cases hq : (q.size : Int) ≤ 256
         · have KG1 := Lib.hid (KG.out hq)
           have HQ : Hid (decide ((q.size : Int) ≤ 256) = true) := Lib.hid (decide_eq_true hq)
           go_wp2_with fail
           refine (KG1.out _).mono ?_
           rintro e w1 ⟨rfl, rfl⟩
           go_wp2_with fail
           go_returns
           refine ⟨?_, by (repeat' first | (with_reducible first | exact .refl _ _ | assumption | apply balloc | apply Below.drew | apply bset | refine bstep ?_ ‹_› | refine bturn ?_ ‹_› ?_) | go_size)⟩
           rw [HQ.out]
           simp [r4R]
         · have HQ : Hid (decide ((q.size : Int) ≤ 256) = false) := Lib.hid (decide_eq_false hq)
           go_wp2_with fail
           go_returns
           refine ⟨?_, by (repeat' first | (with_reducible first | exact .refl _ _ | assumption | apply balloc | apply Below.drew | apply bset | refine bstep ?_ ‹_› | refine bturn ?_ ‹_› ?_) | go_size)⟩
           rw [HQ.out]
           simp [r4R]
       · have HM := Lib.hid (beq_eq_false_iff_ne.2 hm)
         go_wp2_with fail
         go_returns
         refine ⟨?_, by (repeat' first | (with_reducible first | exact .refl _ _ | assumption | apply balloc | apply Below.drew | apply bset | refine bstep ?_ ‹_› | refine bturn ?_ ‹_› ?_) | go_size)⟩
         simp [r4R]
         intro h
         exact absurd h hm
   by_cases k3 : k = 3
   · subst k3
     cases N
     case' true => cases E
     case' true.true => by_cases hm : m = 0
     all_goals
       go_wp2_with fail
       go_returns
       refine ⟨?_, by (repeat' first | (with_reducible first | exact .refl _ _ | assumption | apply balloc | apply Below.drew | apply bset | refine bstep ?_ ‹_› | refine bturn ?_ ‹_› ?_) | go_size)⟩
       first | (simp [r4R]; done) | simp [r4R, hm]
   by_cases k4 : k = 4
   · subst k4
     cases N
     case' true => cases E
     case' true.true => by_cases hm : 0 ≤ m
     all_goals
       try have HM := Lib.hid hm
       go_wp2_with fail
       go_returns
       refine ⟨?_, by (repeat' first | (with_reducible first | exact .refl _ _ | assumption | apply balloc | apply Below.drew | apply bset | refine bstep ?_ ‹_› | refine bturn ?_ ‹_› ?_) | go_size)⟩
       first | (simp [r4R]; done) | (simp [r4R]; omega)
   · have HK := Lib.hid (And.intro k0 (And.intro k1 (And.intro k2 (And.intro k3 k4))))
     go_wp2_with fail
     go_returns
     refine ⟨?_, by (repeat' first | (with_reducible first | exact .refl _ _ | assumption | apply balloc | apply Below.drew | apply bset | refine bstep ?_ ‹_› | refine bturn ?_ ‹_› ?_) | go_size)⟩
     unfold r4R
     obtain ⟨g0, g1, g2, g3, g4⟩ := HK.out
     rw [if_neg g0, if_neg g1, if_neg g2, if_neg g3, if_neg g4]
     try rfl
end
end Go.Proofs.YtapilekangmcoaaGreatDoor
namespace Go.Proofs.YtapilekangmcoaaGreatDoor
open Go.RowKit
open Classical in
theorem r4_any (v : Vl) (hv : VOk v) (w : World) :
   Calls Tryz.prog 22 #[.agg (cellsV v)] w fun e w' => e = .returned (.bool (decide (vSound v))) ∧ Below w.heap.size w w' := by
 have e : r4R v.k (v.n == 0 && v.s == 0) (bs v.t).toList.isEmpty (soundS v.n v.s) v.m (decide (((bs v.t).size : Int) ≤ 256)) (goodS (bs v.t)) = decide (vSound v) := by
   rw [Bool.eq_iff_iff, decide_eq_true_iff]
   obtain ⟨k, n, s, t, m⟩ := v
   have hs : (((bs t).size : Int) ≤ 256) ↔ t.length ≤ 256 := by rw [bs_size]; omega
   unfold r4R vSound
   simp only [bs_toList]
   by_cases h0 : k = 0
   · rw [if_pos h0]
     simp [h0]
     constructor
     · rintro ⟨⟨⟨a, b⟩, c⟩, d⟩
       exact ⟨a, b, c, d⟩
     · rintro ⟨a, b, c, d⟩
       exact ⟨⟨⟨a, b⟩, c⟩, d⟩
   · rw [if_neg h0]
     by_cases h1 : k = 1
     · rw [if_pos h1]
       simp [h1]
       constructor
       · rintro ⟨⟨a, b⟩, c⟩
         exact ⟨a, b, c⟩
       · rintro ⟨a, b, c⟩
         exact ⟨⟨a, b⟩, c⟩
     · rw [if_neg h1]
       by_cases h2 : k = 2
       · rw [if_pos h2]
         simp only [Bool.and_eq_true, beq_iff_eq, decide_eq_true_iff, hs]
         subst h2
         constructor
         · rintro ⟨⟨⟨⟨a, b⟩, c⟩, d⟩, e⟩
           exact .inr (.inr (.inl ⟨rfl, a, b, c, d, e⟩))
         · rintro (h | h | h | h | h)
           · exact absurd h.1 (by decide)
           · exact absurd h.1 (by decide)
           · exact ⟨⟨⟨⟨h.2.1, h.2.2.1⟩, h.2.2.2.1⟩, h.2.2.2.2.1⟩, h.2.2.2.2.2⟩
           · exact absurd h.1 (by decide)
           · exact absurd h.1 (by decide)
       · rw [if_neg h2]
         by_cases h3 : k = 3
         · rw [if_pos h3]
           simp [h3]
           constructor
           · rintro ⟨⟨⟨a, b⟩, c⟩, d⟩
             exact ⟨a, b, c, d⟩
           · rintro ⟨a, b, c, d⟩
             exact ⟨⟨⟨a, b⟩, c⟩, d⟩
         · rw [if_neg h3]
           by_cases h4 : k = 4
           · rw [if_pos h4]
             simp [h4]
             constructor
             · rintro ⟨⟨⟨⟨a, b⟩, c⟩, d⟩, e⟩
               exact ⟨a, b, c, d, e⟩
             · rintro ⟨a, b, c, d, e⟩
               exact ⟨⟨⟨⟨a, b⟩, c⟩, d⟩, e⟩
           · rw [if_neg h4]
             simp [h0, h1, h2, h3, h4]
 have h := r4_walk v.k v.n v.s v.m (bs v.t) w _ _ (soundS v.n v.s) (goodS (bs v.t)) rfl rfl (Lib.hid fun W _ => rsound_any v.n v.s hv.n.1 hv.n.2 hv.s.1 hv.s.2 W) (Lib.hid fun hq W => rgood4_any (bs v.t) (by omega) _ rfl W)
 rw [e] at h
 exact h
end Go.Proofs.YtapilekangmcoaaGreatDoor
namespace Go.Proofs.YtapilekangmcoaaGreatDoor
open Go.RowKit
attribute [local go_sem high] run_vl_eql run_vl_neq
/-- May it have this value and this name? By what the reference asks. -/
def okR (o : Int) (re wb zv sd nk : Bool) : Bool := if o = 2 then wb && zv else if o = 1 then re && (sd && !nk) else re && zv
theorem sndL_at {L : List Ex} {k : Nat} {x : Ex} {d : Nat} {l : Int} (hx : L[k]? = some x) : sndL (L.drop k) d l = if (sndE x d l).1 = true then sndL (L.drop (k + 1)) d (sndE x d l).2 else (false, (sndE x d l).2) := by
 obtain ⟨hk, rfl⟩ := List.getElem?_eq_some_iff.1 hx
 rw [List.drop_eq_getElem_cons hk, sndL]
def RSndC (w0 : World) (x : Ex) : Prop := ∀ (cs : Array Value) (d : Nat) (l : Int) (w : World), XM (fun _ => True) w0 x cs → Below w0.heap.size w0 w → d ≤ 100 → 0 ≤ l → l ≤ 5000 →
 Calls Tryz.prog 40 #[.agg cs, .int .i64 (d : Int), .int .i64 l] w fun e w' => e = .returned (.tuple #[.int .i64 (sndE x d l).2, .bool (sndE x d l).1]) ∧ Below w.heap.size w w'
section
variable (vk vn vs vm : Int) (q r : ByteArray) (A : Option Addr) (c d d1 : Nat) (L : List Ex) (l l1 : Int) (w0 w : World) (re wb zv sd nk e1 e4 : Bool)
set_option maxHeartbeats 16000000 in
theorem rsnd_1 (hnk : (decide (vk = 1) && decide (vn < 0)) = nk) (hk : KD w0 A L) (hb : Below w0.heap.size w0 w) (hlw : IntKind.i64.wrap (l - 1) = l1) (hdw : IntKind.i64.wrap ((d : Int) + 1) = (d1 : Int)) (hd1 : d1 = d + 1) (hd64 : d ≤ 64) (hl1 : l1 = l - 1) (h0 : 0 ≤ l1) (hl : l ≤ 5000) (hre : r.toList.isEmpty = re) (hzv : vlq vk vn vs q vm 0 0 0 ⟨#[]⟩ 0 = zv) (he4 : ((L.length : Int) != 0) = e4)
   (KW : Hid (∀ W, Calls Tryz.prog 68 #[.string r] W fun e w' => e = .returned (.bool wb) ∧ W = w'))
   (KV : Hid (∀ W, Calls Tryz.prog 22 #[.agg #[.int .i64 vk, .int .i64 vn, .int .i64 vs, .string q, .int .i64 vm]] W fun e w' => e = .returned (.bool sd) ∧ Below W.heap.size W w'))
   (hK : ∀ k ∈ L, RSndC w0 k) :
   Calls Tryz.prog 40 #[.agg #[.int .i64 1, .int .i64 vk, .int .i64 vn, .int .i64 vs, .string q, .int .i64 vm, .string r, .slice A L.length c], .int .i64 (d : Int), .int .i64 l] w fun e w' => e = .returned (.tuple #[.int .i64 (if (!e4 && okR 1 re wb zv sd nk) = true then (sndL L d1 l1).2 else l1), .bool (if (!e4 && okR 1 re wb zv sd nk) = true then (sndL L d1 l1).1 else false)]) ∧ Below w.heap.size w w' := by
 have hdi : ¬ (64 : Int) < (d : Int) := by omega
 have hli : ¬ l1 < 0 := by omega
 have HK := Lib.hid hk
 have HKK := Lib.hid hK
 have HB := Lib.hid hb
 have hn := hk.n
 have k0 : Blk (w.alloc (.cells #[.int .i64 1, .int .i64 vk, .int .i64 vn, .int .i64 vs, .string q, .int .i64 vm, .string r, .slice A L.length c] 33)) w.heap.size 33 #[.int .i64 1, .int .i64 vk, .int .i64 vn, .int .i64 vs, .string q, .int .i64 vm, .string r, .slice A L.length c] := Blk.new _ _ _
 have HR : Hid (0 ≤ l1 ∧ l1 ≤ 5000 ∧ d1 ≤ 100) := Lib.hid ⟨h0, by omega, by omega⟩
 obtain ⟨R, hR⟩ : ∃ R, sndL L d1 l1 = R := ⟨_, rfl⟩
 have HRR : Hid (sndL (L.drop 0) d1 l1 = R) := Lib.hid hR
 rw [hR]
 clear hk hK hb hR h0 hl hd64 hd1 hl1
 cases e4 with
 | true =>
   clear k0
   go_enter Tryz.func40, Tryz.ntmps40
   go_wp2_with fail
   go_returns
   exact ⟨by simp, by (repeat' first | (with_reducible first | exact .refl _ _ | assumption | apply balloc | apply Below.drew | apply bset | refine bstep ?_ ‹_› | refine bturn ?_ ‹_› ?_) | go_size)⟩
 | false =>
   cases re with
   | false =>
     clear k0
     go_enter Tryz.func40, Tryz.ntmps40
     go_wp2_with fail
     go_returns
     exact ⟨by simp [okR], by (repeat' first | (with_reducible first | exact .refl _ _ | assumption | apply balloc | apply Below.drew | apply bset | refine bstep ?_ ‹_› | refine bturn ?_ ‹_› ?_) | go_size)⟩
   | true =>
     go_enter Tryz.func40, Tryz.ntmps40
     go_wp2_with fail
     refine (KV.out _).mono ?_
     rintro e wq ⟨rfl, hbq⟩
     have kq := k0.step hbq
     have KQ := Lib.hid kq
     have hbw : Below w.heap.size w wq := by (repeat' first | (with_reducible first | exact .refl _ _ | assumption | apply balloc | apply Below.drew | apply bset | refine bstep ?_ ‹_› | refine bturn ?_ ‹_› ?_) | go_size)
     clear k0 hbq
     obtain ⟨hlz, hllz, qz0, qz1, qz2, qz3, qz4, qz5, qz6, qz7, zz0, zz1, zz2, zz3, zz4, zz5, zz6, zz7⟩ := bf8 kq; (try simp at qz0 qz1 qz2 qz3 qz4 qz5 qz6 qz7); have Hkq := Lib.hid kq; clear kq
     cases sd with
     | false =>
       go_wp2_with fail
       go_returns
       exact ⟨by simp [okR], by (repeat' first | (with_reducible first | exact .refl _ _ | assumption | apply balloc | apply Below.drew | apply bset | refine bstep ?_ ‹_› | refine bturn ?_ ‹_› ?_) | go_size)⟩
     | true =>
       by_cases h1k : vk = 1
       · have hkb : (vk == 1) = true := by simpa using h1k
         by_cases hng : vn < 0
         · obtain rfl : nk = true := by rw [← hnk]; simp [hng, h1k]
           go_wp2_with fail
           go_returns
           exact ⟨by simp [okR], by (repeat' first | (with_reducible first | exact .refl _ _ | assumption | apply balloc | apply Below.drew | apply bset | refine bstep ?_ ‹_› | refine bturn ?_ ‹_› ?_) | go_size)⟩
         · obtain rfl : nk = false := by rw [← hnk]; simp [hng]
           go_wp2_with fail
           go_loopw [9, 2, 10, 119] (fun i lv _ _ wr => ∃ (k : Nat) (lk : Int), k ≤ L.length ∧ i = .int .i64 (k : Int) ∧ lv = .int .i64 lk ∧ Below w.heap.size w wr ∧ Blk wr w.heap.size 33 #[.int .i64 1, .int .i64 vk, .int .i64 vn, .int .i64 vs, .string q, .int .i64 vm, .string r, .slice A L.length c] ∧ Hid (sndL (L.drop k) d1 lk = R ∧ 0 ≤ lk ∧ lk ≤ 5000)) (fun i _ _ _ _ => L.length - (intOf i).toNat)
           case atStart => exact ⟨0, l1, by omega, rfl, rfl, by (repeat' first | (with_reducible first | exact .refl _ _ | assumption | apply balloc | apply Below.drew | apply bset | refine bstep ?_ ‹_› | refine bturn ?_ ‹_› ?_) | go_size), KQ.out, Lib.hid ⟨HRR.out, HR.out.1, HR.out.2.1⟩⟩
           case round =>
             clear qz0 qz1 qz2 qz3 qz4 qz5 qz6 qz7 zz0 zz1 zz2 zz3 zz4 zz5 zz6 zz7 hlz hllz
             obtain ⟨k, lk, hkk, rfl, rfl, hb, kx, HQ⟩ := hrel
             have hb0 : Below w0.heap.size w0 wr := HB.out.trans (hb.mono (by have := HB.out.size; omega))
             have KX := Lib.hid kx
             by_cases hlt : k < L.length
             · obtain ⟨x, hx⟩ : ∃ x, L[k]? = some x := ⟨L[k], List.getElem?_eq_getElem hlt⟩
               have hki : (k : Int) < (L.length : Int) := by omega
               have hkn : IntKind.i64.wrap ((k : Int) + 1) = ((k + 1 : Nat) : Int) := by rw [IntWalk.i64_in _ (by omega)]; omega
               obtain ⟨g, off, ko, kk', kn, ks, kq, km, kr, kB, kl, kc, rfl, hxm, q0, q1, q2, q3, q4, q5, q6, q7⟩ := HK.out.get k x hx
               replace q0 := keep1 hb0 q0
               replace q1 := keep1 hb0 q1
               replace q2 := keep1 hb0 q2
               replace q3 := keep1 hb0 q3
               replace q4 := keep1 hb0 q4
               replace q5 := keep1 hb0 q5
               replace q6 := keep1 hb0 q6
               replace q7 := keep1 hb0 q7
               have KC := Lib.hid (HKK.out x (List.mem_of_getElem? hx) _ d1 lk wr hxm hb0 HR.out.2.2 HQ.out.2.1 HQ.out.2.2)
               have hq := HQ.out.1
               rw [sndL_at hx] at hq
               obtain ⟨b, hbb⟩ : ∃ b, (sndE x d1 lk).1 = b := ⟨_, rfl⟩
               obtain ⟨l2, hl2⟩ : ∃ b, (sndE x d1 lk).2 = b := ⟨_, rfl⟩
               have hbd : b = true → 0 ≤ l2 ∧ l2 ≤ 5000 := fun h => by
                 obtain ⟨_, _, e2, e3⟩ := sndE_true x d1 lk (hbb.trans h)
                 rw [hl2] at e2 e3
                 exact ⟨e3, by have := HQ.out.2.2; omega⟩
               rw [hbb, hl2] at KC hq
               have HQ2 := Lib.hid hq
               have HBD := Lib.hid hbd
               clear hx hxm hq hbb hl2 HQ hbd
               obtain ⟨hlx, hllx, qx0, qx1, qx2, qx3, qx4, qx5, qx6, qx7, zx0, zx1, zx2, zx3, zx4, zx5, zx6, zx7⟩ := bf8 kx; (try simp at qx0 qx1 qx2 qx3 qx4 qx5 qx6 qx7); have Hkx := Lib.hid kx; clear kx
               go_wp2_with fail
               refine (KC.out).mono ?_
               rintro e w2 ⟨rfl, hb2⟩
               clear q0 q1 q2 q3 q4 q5 q6 q7 qx0 qx1 qx2 qx3 qx4 qx5 qx6 qx7 zx0 zx1 zx2 zx3 zx4 zx5 zx6 zx7 hlx hllx
               cases b with
               | false =>
                 go_wp2_with fail
                 go_returns
                 exact ⟨by rw [← HQ2.out]; simp [okR], by (repeat' first | (with_reducible first | exact .refl _ _ | assumption | apply balloc | apply Below.drew | apply bset | refine bstep ?_ ‹_› | refine bturn ?_ ‹_› ?_) | go_size)⟩
               | true =>
                 have hq := HQ2.out
                 rw [if_pos rfl] at hq
                 have HQ3 : Hid (sndL (L.drop (k + 1)) d1 l2 = R ∧ 0 ≤ l2 ∧ l2 ≤ 5000) := Lib.hid ⟨hq, HBD.out rfl⟩
                 clear hq HQ2 HBD
                 go_wp2_with fail
                 go_roundw
                 case rel => exact ⟨k + 1, l2, by omega, by go_num, rfl, by (repeat' first | (with_reducible first | exact .refl _ _ | assumption | apply balloc | apply Below.drew | apply bset | refine bstep ?_ ‹_› | refine bturn ?_ ‹_› ?_) | go_size), KX.out.step hb2, HQ3⟩
                 case measure => simp [intOf]; omega
             · obtain rfl : k = L.length := by omega
               have hq := HQ.out.1
               rw [List.drop_length, sndL] at hq
               have HQ3 := Lib.hid hq
               clear hlt HQ hq
               obtain ⟨hlx, hllx, qx0, qx1, qx2, qx3, qx4, qx5, qx6, qx7, zx0, zx1, zx2, zx3, zx4, zx5, zx6, zx7⟩ := bf8 kx; (try simp at qx0 qx1 qx2 qx3 qx4 qx5 qx6 qx7); have Hkx := Lib.hid kx; clear kx
               go_wp2_with fail
               go_returns
               exact ⟨by rw [← HQ3.out]; simp [okR], hb⟩
       · have hkb : (vk == 1) = false := by simpa using h1k
         obtain rfl : nk = false := by rw [← hnk]; simp [h1k]
         go_wp2_with fail
         go_loopw [9, 2, 10, 119] (fun i lv _ _ wr => ∃ (k : Nat) (lk : Int), k ≤ L.length ∧ i = .int .i64 (k : Int) ∧ lv = .int .i64 lk ∧ Below w.heap.size w wr ∧ Blk wr w.heap.size 33 #[.int .i64 1, .int .i64 vk, .int .i64 vn, .int .i64 vs, .string q, .int .i64 vm, .string r, .slice A L.length c] ∧ Hid (sndL (L.drop k) d1 lk = R ∧ 0 ≤ lk ∧ lk ≤ 5000)) (fun i _ _ _ _ => L.length - (intOf i).toNat)
         case atStart => exact ⟨0, l1, by omega, rfl, rfl, by (repeat' first | (with_reducible first | exact .refl _ _ | assumption | apply balloc | apply Below.drew | apply bset | refine bstep ?_ ‹_› | refine bturn ?_ ‹_› ?_) | go_size), KQ.out, Lib.hid ⟨HRR.out, HR.out.1, HR.out.2.1⟩⟩
         case round =>
           clear qz0 qz1 qz2 qz3 qz4 qz5 qz6 qz7 zz0 zz1 zz2 zz3 zz4 zz5 zz6 zz7 hlz hllz
           obtain ⟨k, lk, hkk, rfl, rfl, hb, kx, HQ⟩ := hrel
           have hb0 : Below w0.heap.size w0 wr := HB.out.trans (hb.mono (by have := HB.out.size; omega))
           have KX := Lib.hid kx
           by_cases hlt : k < L.length
           · obtain ⟨x, hx⟩ : ∃ x, L[k]? = some x := ⟨L[k], List.getElem?_eq_getElem hlt⟩
             have hki : (k : Int) < (L.length : Int) := by omega
             have hkn : IntKind.i64.wrap ((k : Int) + 1) = ((k + 1 : Nat) : Int) := by rw [IntWalk.i64_in _ (by omega)]; omega
             obtain ⟨g, off, ko, kk', kn, ks, kq, km, kr, kB, kl, kc, rfl, hxm, q0, q1, q2, q3, q4, q5, q6, q7⟩ := HK.out.get k x hx
             replace q0 := keep1 hb0 q0
             replace q1 := keep1 hb0 q1
             replace q2 := keep1 hb0 q2
             replace q3 := keep1 hb0 q3
             replace q4 := keep1 hb0 q4
             replace q5 := keep1 hb0 q5
             replace q6 := keep1 hb0 q6
             replace q7 := keep1 hb0 q7
             have KC := Lib.hid (HKK.out x (List.mem_of_getElem? hx) _ d1 lk wr hxm hb0 HR.out.2.2 HQ.out.2.1 HQ.out.2.2)
             have hq := HQ.out.1
             rw [sndL_at hx] at hq
             obtain ⟨b, hbb⟩ : ∃ b, (sndE x d1 lk).1 = b := ⟨_, rfl⟩
             obtain ⟨l2, hl2⟩ : ∃ b, (sndE x d1 lk).2 = b := ⟨_, rfl⟩
             have hbd : b = true → 0 ≤ l2 ∧ l2 ≤ 5000 := fun h => by
               obtain ⟨_, _, e2, e3⟩ := sndE_true x d1 lk (hbb.trans h)
               rw [hl2] at e2 e3
               exact ⟨e3, by have := HQ.out.2.2; omega⟩
             rw [hbb, hl2] at KC hq
             have HQ2 := Lib.hid hq
             have HBD := Lib.hid hbd
             clear hx hxm hq hbb hl2 HQ hbd
             obtain ⟨hlx, hllx, qx0, qx1, qx2, qx3, qx4, qx5, qx6, qx7, zx0, zx1, zx2, zx3, zx4, zx5, zx6, zx7⟩ := bf8 kx; (try simp at qx0 qx1 qx2 qx3 qx4 qx5 qx6 qx7); have Hkx := Lib.hid kx; clear kx
             go_wp2_with fail
             refine (KC.out).mono ?_
             rintro e w2 ⟨rfl, hb2⟩
             clear q0 q1 q2 q3 q4 q5 q6 q7 qx0 qx1 qx2 qx3 qx4 qx5 qx6 qx7 zx0 zx1 zx2 zx3 zx4 zx5 zx6 zx7 hlx hllx
             cases b with
             | false =>
               go_wp2_with fail
               go_returns
               exact ⟨by rw [← HQ2.out]; simp [okR], by (repeat' first | (with_reducible first | exact .refl _ _ | assumption | apply balloc | apply Below.drew | apply bset | refine bstep ?_ ‹_› | refine bturn ?_ ‹_› ?_) | go_size)⟩
             | true =>
               have hq := HQ2.out
               rw [if_pos rfl] at hq
               have HQ3 : Hid (sndL (L.drop (k + 1)) d1 l2 = R ∧ 0 ≤ l2 ∧ l2 ≤ 5000) := Lib.hid ⟨hq, HBD.out rfl⟩
               clear hq HQ2 HBD
               go_wp2_with fail
               go_roundw
               case rel => exact ⟨k + 1, l2, by omega, by go_num, rfl, by (repeat' first | (with_reducible first | exact .refl _ _ | assumption | apply balloc | apply Below.drew | apply bset | refine bstep ?_ ‹_› | refine bturn ?_ ‹_› ?_) | go_size), KX.out.step hb2, HQ3⟩
               case measure => simp [intOf]; omega
           · obtain rfl : k = L.length := by omega
             have hq := HQ.out.1
             rw [List.drop_length, sndL] at hq
             have HQ3 := Lib.hid hq
             clear hlt HQ hq
             obtain ⟨hlx, hllx, qx0, qx1, qx2, qx3, qx4, qx5, qx6, qx7, zx0, zx1, zx2, zx3, zx4, zx5, zx6, zx7⟩ := bf8 kx; (try simp at qx0 qx1 qx2 qx3 qx4 qx5 qx6 qx7); have Hkx := Lib.hid kx; clear kx
             go_wp2_with fail
             go_returns
             exact ⟨by rw [← HQ3.out]; simp [okR], hb⟩
set_option maxHeartbeats 16000000 in
theorem rsnd_2 (hk : KD w0 A L) (hb : Below w0.heap.size w0 w) (hlw : IntKind.i64.wrap (l - 1) = l1) (hdw : IntKind.i64.wrap ((d : Int) + 1) = (d1 : Int)) (hd1 : d1 = d + 1) (hd64 : d ≤ 64) (hl1 : l1 = l - 1) (h0 : 0 ≤ l1) (hl : l ≤ 5000) (hre : r.toList.isEmpty = re) (hzv : vlq vk vn vs q vm 0 0 0 ⟨#[]⟩ 0 = zv) (he4 : ((L.length : Int) != 0) = e4)
   (KW : Hid (∀ W, Calls Tryz.prog 68 #[.string r] W fun e w' => e = .returned (.bool wb) ∧ W = w'))
   (KV : Hid (∀ W, Calls Tryz.prog 22 #[.agg #[.int .i64 vk, .int .i64 vn, .int .i64 vs, .string q, .int .i64 vm]] W fun e w' => e = .returned (.bool sd) ∧ Below W.heap.size W w'))
   (hK : ∀ k ∈ L, RSndC w0 k) :
   Calls Tryz.prog 40 #[.agg #[.int .i64 2, .int .i64 vk, .int .i64 vn, .int .i64 vs, .string q, .int .i64 vm, .string r, .slice A L.length c], .int .i64 (d : Int), .int .i64 l] w fun e w' => e = .returned (.tuple #[.int .i64 (if (!e4 && okR 2 re wb zv sd nk) = true then (sndL L d1 l1).2 else l1), .bool (if (!e4 && okR 2 re wb zv sd nk) = true then (sndL L d1 l1).1 else false)]) ∧ Below w.heap.size w w' := by
 have hdi : ¬ (64 : Int) < (d : Int) := by omega
 have hli : ¬ l1 < 0 := by omega
 have HK := Lib.hid hk
 have HKK := Lib.hid hK
 have HB := Lib.hid hb
 have hn := hk.n
 have k0 : Blk (w.alloc (.cells #[.int .i64 2, .int .i64 vk, .int .i64 vn, .int .i64 vs, .string q, .int .i64 vm, .string r, .slice A L.length c] 33)) w.heap.size 33 #[.int .i64 2, .int .i64 vk, .int .i64 vn, .int .i64 vs, .string q, .int .i64 vm, .string r, .slice A L.length c] := Blk.new _ _ _
 have HR : Hid (0 ≤ l1 ∧ l1 ≤ 5000 ∧ d1 ≤ 100) := Lib.hid ⟨h0, by omega, by omega⟩
 obtain ⟨R, hR⟩ : ∃ R, sndL L d1 l1 = R := ⟨_, rfl⟩
 have HRR : Hid (sndL (L.drop 0) d1 l1 = R) := Lib.hid hR
 rw [hR]
 clear hk hK hb hR h0 hl hd64 hd1 hl1
 cases e4 with
 | true =>
   clear k0
   go_enter Tryz.func40, Tryz.ntmps40
   go_wp2_with fail
   go_returns
   exact ⟨by simp, by (repeat' first | (with_reducible first | exact .refl _ _ | assumption | apply balloc | apply Below.drew | apply bset | refine bstep ?_ ‹_› | refine bturn ?_ ‹_› ?_) | go_size)⟩
 | false =>
   go_enter Tryz.func40, Tryz.ntmps40
   go_wp2_with fail
   refine (KW.out _).mono ?_
   rintro e wq ⟨rfl, rfl⟩
   cases wb with
   | false =>
     go_wp2_with fail
     go_returns
     exact ⟨by simp [okR], by (repeat' first | (with_reducible first | exact .refl _ _ | assumption | apply balloc | apply Below.drew | apply bset | refine bstep ?_ ‹_› | refine bturn ?_ ‹_› ?_) | go_size)⟩
   | true =>
     cases zv with
     | false =>
       go_wp2_with fail
       go_returns
       exact ⟨by simp [okR], by (repeat' first | (with_reducible first | exact .refl _ _ | assumption | apply balloc | apply Below.drew | apply bset | refine bstep ?_ ‹_› | refine bturn ?_ ‹_› ?_) | go_size)⟩
     | true =>
       go_wp2_with fail
       go_loopw [9, 2, 10, 119] (fun i lv _ _ wr => ∃ (k : Nat) (lk : Int), k ≤ L.length ∧ i = .int .i64 (k : Int) ∧ lv = .int .i64 lk ∧ Below w.heap.size w wr ∧ Blk wr w.heap.size 33 #[.int .i64 2, .int .i64 vk, .int .i64 vn, .int .i64 vs, .string q, .int .i64 vm, .string r, .slice A L.length c] ∧ Hid (sndL (L.drop k) d1 lk = R ∧ 0 ≤ lk ∧ lk ≤ 5000)) (fun i _ _ _ _ => L.length - (intOf i).toNat)
       case atStart => exact ⟨0, l1, by omega, rfl, rfl, by (repeat' first | (with_reducible first | exact .refl _ _ | assumption | apply balloc | apply Below.drew | apply bset | refine bstep ?_ ‹_› | refine bturn ?_ ‹_› ?_) | go_size), k0, Lib.hid ⟨HRR.out, HR.out.1, HR.out.2.1⟩⟩
       case round =>
         obtain ⟨k, lk, hkk, rfl, rfl, hb, kx, HQ⟩ := hrel
         have hb0 : Below w0.heap.size w0 wr := HB.out.trans (hb.mono (by have := HB.out.size; omega))
         have KX := Lib.hid kx
         by_cases hlt : k < L.length
         · obtain ⟨x, hx⟩ : ∃ x, L[k]? = some x := ⟨L[k], List.getElem?_eq_getElem hlt⟩
           have hki : (k : Int) < (L.length : Int) := by omega
           have hkn : IntKind.i64.wrap ((k : Int) + 1) = ((k + 1 : Nat) : Int) := by rw [IntWalk.i64_in _ (by omega)]; omega
           obtain ⟨g, off, ko, kk', kn, ks, kq, km, kr, kB, kl, kc, rfl, hxm, q0, q1, q2, q3, q4, q5, q6, q7⟩ := HK.out.get k x hx
           replace q0 := keep1 hb0 q0
           replace q1 := keep1 hb0 q1
           replace q2 := keep1 hb0 q2
           replace q3 := keep1 hb0 q3
           replace q4 := keep1 hb0 q4
           replace q5 := keep1 hb0 q5
           replace q6 := keep1 hb0 q6
           replace q7 := keep1 hb0 q7
           have KC := Lib.hid (HKK.out x (List.mem_of_getElem? hx) _ d1 lk wr hxm hb0 HR.out.2.2 HQ.out.2.1 HQ.out.2.2)
           have hq := HQ.out.1
           rw [sndL_at hx] at hq
           obtain ⟨b, hbb⟩ : ∃ b, (sndE x d1 lk).1 = b := ⟨_, rfl⟩
           obtain ⟨l2, hl2⟩ : ∃ b, (sndE x d1 lk).2 = b := ⟨_, rfl⟩
           have hbd : b = true → 0 ≤ l2 ∧ l2 ≤ 5000 := fun h => by
             obtain ⟨_, _, e2, e3⟩ := sndE_true x d1 lk (hbb.trans h)
             rw [hl2] at e2 e3
             exact ⟨e3, by have := HQ.out.2.2; omega⟩
           rw [hbb, hl2] at KC hq
           have HQ2 := Lib.hid hq
           have HBD := Lib.hid hbd
           clear hx hxm hq hbb hl2 HQ hbd
           obtain ⟨hlx, hllx, qx0, qx1, qx2, qx3, qx4, qx5, qx6, qx7, zx0, zx1, zx2, zx3, zx4, zx5, zx6, zx7⟩ := bf8 kx; (try simp at qx0 qx1 qx2 qx3 qx4 qx5 qx6 qx7); have Hkx := Lib.hid kx; clear kx
           go_wp2_with fail
           refine (KC.out).mono ?_
           rintro e w2 ⟨rfl, hb2⟩
           clear q0 q1 q2 q3 q4 q5 q6 q7 qx0 qx1 qx2 qx3 qx4 qx5 qx6 qx7 zx0 zx1 zx2 zx3 zx4 zx5 zx6 zx7 hlx hllx
           cases b with
           | false =>
             go_wp2_with fail
             go_returns
             exact ⟨by rw [← HQ2.out]; simp [okR], by (repeat' first | (with_reducible first | exact .refl _ _ | assumption | apply balloc | apply Below.drew | apply bset | refine bstep ?_ ‹_› | refine bturn ?_ ‹_› ?_) | go_size)⟩
           | true =>
             have hq := HQ2.out
             rw [if_pos rfl] at hq
             have HQ3 : Hid (sndL (L.drop (k + 1)) d1 l2 = R ∧ 0 ≤ l2 ∧ l2 ≤ 5000) := Lib.hid ⟨hq, HBD.out rfl⟩
             clear hq HQ2 HBD
             go_wp2_with fail
             go_roundw
             case rel => exact ⟨k + 1, l2, by omega, by go_num, rfl, by (repeat' first | (with_reducible first | exact .refl _ _ | assumption | apply balloc | apply Below.drew | apply bset | refine bstep ?_ ‹_› | refine bturn ?_ ‹_› ?_) | go_size), KX.out.step hb2, HQ3⟩
             case measure => simp [intOf]; omega
         · obtain rfl : k = L.length := by omega
           have hq := HQ.out.1
           rw [List.drop_length, sndL] at hq
           have HQ3 := Lib.hid hq
           clear hlt HQ hq
           obtain ⟨hlx, hllx, qx0, qx1, qx2, qx3, qx4, qx5, qx6, qx7, zx0, zx1, zx2, zx3, zx4, zx5, zx6, zx7⟩ := bf8 kx; (try simp at qx0 qx1 qx2 qx3 qx4 qx5 qx6 qx7); have Hkx := Lib.hid kx; clear kx
           go_wp2_with fail
           go_returns
           exact ⟨by rw [← HQ3.out]; simp [okR], hb⟩
set_option maxHeartbeats 16000000 in
theorem rsnd_3 (hk : KD w0 A L) (hb : Below w0.heap.size w0 w) (hlw : IntKind.i64.wrap (l - 1) = l1) (hdw : IntKind.i64.wrap ((d : Int) + 1) = (d1 : Int)) (hd1 : d1 = d + 1) (hd64 : d ≤ 64) (hl1 : l1 = l - 1) (h0 : 0 ≤ l1) (hl : l ≤ 5000) (hre : r.toList.isEmpty = re) (hzv : vlq vk vn vs q vm 0 0 0 ⟨#[]⟩ 0 = zv) (he4 : ((L.length : Int) != 1) = e4)
   (KW : Hid (∀ W, Calls Tryz.prog 68 #[.string r] W fun e w' => e = .returned (.bool wb) ∧ W = w'))
   (KV : Hid (∀ W, Calls Tryz.prog 22 #[.agg #[.int .i64 vk, .int .i64 vn, .int .i64 vs, .string q, .int .i64 vm]] W fun e w' => e = .returned (.bool sd) ∧ Below W.heap.size W w'))
   (hK : ∀ k ∈ L, RSndC w0 k) :
   Calls Tryz.prog 40 #[.agg #[.int .i64 3, .int .i64 vk, .int .i64 vn, .int .i64 vs, .string q, .int .i64 vm, .string r, .slice A L.length c], .int .i64 (d : Int), .int .i64 l] w fun e w' => e = .returned (.tuple #[.int .i64 (if (!e4 && okR 3 re wb zv sd nk) = true then (sndL L d1 l1).2 else l1), .bool (if (!e4 && okR 3 re wb zv sd nk) = true then (sndL L d1 l1).1 else false)]) ∧ Below w.heap.size w w' := by
 have hdi : ¬ (64 : Int) < (d : Int) := by omega
 have hli : ¬ l1 < 0 := by omega
 have HK := Lib.hid hk
 have HKK := Lib.hid hK
 have HB := Lib.hid hb
 have hn := hk.n
 have k0 : Blk (w.alloc (.cells #[.int .i64 3, .int .i64 vk, .int .i64 vn, .int .i64 vs, .string q, .int .i64 vm, .string r, .slice A L.length c] 33)) w.heap.size 33 #[.int .i64 3, .int .i64 vk, .int .i64 vn, .int .i64 vs, .string q, .int .i64 vm, .string r, .slice A L.length c] := Blk.new _ _ _
 have HR : Hid (0 ≤ l1 ∧ l1 ≤ 5000 ∧ d1 ≤ 100) := Lib.hid ⟨h0, by omega, by omega⟩
 obtain ⟨R, hR⟩ : ∃ R, sndL L d1 l1 = R := ⟨_, rfl⟩
 have HRR : Hid (sndL (L.drop 0) d1 l1 = R) := Lib.hid hR
 rw [hR]
 clear hk hK hb hR h0 hl hd64 hd1 hl1
 cases e4 with
 | true =>
   clear k0
   go_enter Tryz.func40, Tryz.ntmps40
   go_wp2_with fail
   go_returns
   exact ⟨by simp, by (repeat' first | (with_reducible first | exact .refl _ _ | assumption | apply balloc | apply Below.drew | apply bset | refine bstep ?_ ‹_› | refine bturn ?_ ‹_› ?_) | go_size)⟩
 | false =>
   cases re with
   | false =>
     have HOK : Hid (okR 3 false wb zv sd nk = false) := Lib.hid (by simp [okR, *])
     rw [HOK.out, show (!false && false) = false from rfl, if_neg (by decide), if_neg (by decide)]
     clear k0
     go_enter Tryz.func40, Tryz.ntmps40
     go_wp2_with fail
     go_returns
     exact ⟨rfl, by (repeat' first | (with_reducible first | exact .refl _ _ | assumption | apply balloc | apply Below.drew | apply bset | refine bstep ?_ ‹_› | refine bturn ?_ ‹_› ?_) | go_size)⟩
   | true =>
     cases zv with
     | false =>
       have HOK : Hid (okR 3 true wb false sd nk = false) := Lib.hid (by simp [okR, *])
       rw [HOK.out, show (!false && false) = false from rfl, if_neg (by decide), if_neg (by decide)]
       clear k0
       go_enter Tryz.func40, Tryz.ntmps40
       go_wp2_with fail
       go_returns
       exact ⟨rfl, by (repeat' first | (with_reducible first | exact .refl _ _ | assumption | apply balloc | apply Below.drew | apply bset | refine bstep ?_ ‹_› | refine bturn ?_ ‹_› ?_) | go_size)⟩
     | true =>
       have HOK : Hid (okR 3 true wb true sd nk = true) := Lib.hid (by simp [okR, *])
       rw [HOK.out, show (!false && true) = true from rfl, if_pos rfl, if_pos rfl]
       go_enter Tryz.func40, Tryz.ntmps40
       go_wp2_with fail
       go_loopw [9, 2, 10, 119] (fun i lv _ _ wr => ∃ (k : Nat) (lk : Int), k ≤ L.length ∧ i = .int .i64 (k : Int) ∧ lv = .int .i64 lk ∧ Below w.heap.size w wr ∧ Blk wr w.heap.size 33 #[.int .i64 3, .int .i64 vk, .int .i64 vn, .int .i64 vs, .string q, .int .i64 vm, .string r, .slice A L.length c] ∧ Hid (sndL (L.drop k) d1 lk = R ∧ 0 ≤ lk ∧ lk ≤ 5000)) (fun i _ _ _ _ => L.length - (intOf i).toNat)
       case atStart => exact ⟨0, l1, by omega, rfl, rfl, by (repeat' first | (with_reducible first | exact .refl _ _ | assumption | apply balloc | apply Below.drew | apply bset | refine bstep ?_ ‹_› | refine bturn ?_ ‹_› ?_) | go_size), k0, Lib.hid ⟨HRR.out, HR.out.1, HR.out.2.1⟩⟩
       case round =>
         obtain ⟨k, lk, hkk, rfl, rfl, hb, kx, HQ⟩ := hrel
         have hb0 : Below w0.heap.size w0 wr := HB.out.trans (hb.mono (by have := HB.out.size; omega))
         have KX := Lib.hid kx
         by_cases hlt : k < L.length
         · obtain ⟨x, hx⟩ : ∃ x, L[k]? = some x := ⟨L[k], List.getElem?_eq_getElem hlt⟩
           have hki : (k : Int) < (L.length : Int) := by omega
           have hkn : IntKind.i64.wrap ((k : Int) + 1) = ((k + 1 : Nat) : Int) := by rw [IntWalk.i64_in _ (by omega)]; omega
           obtain ⟨g, off, ko, kk', kn, ks, kq, km, kr, kB, kl, kc, rfl, hxm, q0, q1, q2, q3, q4, q5, q6, q7⟩ := HK.out.get k x hx
           replace q0 := keep1 hb0 q0
           replace q1 := keep1 hb0 q1
           replace q2 := keep1 hb0 q2
           replace q3 := keep1 hb0 q3
           replace q4 := keep1 hb0 q4
           replace q5 := keep1 hb0 q5
           replace q6 := keep1 hb0 q6
           replace q7 := keep1 hb0 q7
           have KC := Lib.hid (HKK.out x (List.mem_of_getElem? hx) _ d1 lk wr hxm hb0 HR.out.2.2 HQ.out.2.1 HQ.out.2.2)
           have hq := HQ.out.1
           rw [sndL_at hx] at hq
           obtain ⟨b, hbb⟩ : ∃ b, (sndE x d1 lk).1 = b := ⟨_, rfl⟩
           obtain ⟨l2, hl2⟩ : ∃ b, (sndE x d1 lk).2 = b := ⟨_, rfl⟩
           have hbd : b = true → 0 ≤ l2 ∧ l2 ≤ 5000 := fun h => by
             obtain ⟨_, _, e2, e3⟩ := sndE_true x d1 lk (hbb.trans h)
             rw [hl2] at e2 e3
             exact ⟨e3, by have := HQ.out.2.2; omega⟩
           rw [hbb, hl2] at KC hq
           have HQ2 := Lib.hid hq
           have HBD := Lib.hid hbd
           clear hx hxm hq hbb hl2 HQ hbd
           obtain ⟨hlx, hllx, qx0, qx1, qx2, qx3, qx4, qx5, qx6, qx7, zx0, zx1, zx2, zx3, zx4, zx5, zx6, zx7⟩ := bf8 kx; (try simp at qx0 qx1 qx2 qx3 qx4 qx5 qx6 qx7); have Hkx := Lib.hid kx; clear kx
           go_wp2_with fail
           refine (KC.out).mono ?_
           rintro e w2 ⟨rfl, hb2⟩
           clear q0 q1 q2 q3 q4 q5 q6 q7 qx0 qx1 qx2 qx3 qx4 qx5 qx6 qx7 zx0 zx1 zx2 zx3 zx4 zx5 zx6 zx7 hlx hllx
           cases b with
           | false =>
             go_wp2_with fail
             go_returns
             exact ⟨by rw [← HQ2.out]; simp, by (repeat' first | (with_reducible first | exact .refl _ _ | assumption | apply balloc | apply Below.drew | apply bset | refine bstep ?_ ‹_› | refine bturn ?_ ‹_› ?_) | go_size)⟩
           | true =>
             have hq := HQ2.out
             rw [if_pos rfl] at hq
             have HQ3 : Hid (sndL (L.drop (k + 1)) d1 l2 = R ∧ 0 ≤ l2 ∧ l2 ≤ 5000) := Lib.hid ⟨hq, HBD.out rfl⟩
             clear hq HQ2 HBD
             go_wp2_with fail
             go_roundw
             case rel => exact ⟨k + 1, l2, by omega, by go_num, rfl, by (repeat' first | (with_reducible first | exact .refl _ _ | assumption | apply balloc | apply Below.drew | apply bset | refine bstep ?_ ‹_› | refine bturn ?_ ‹_› ?_) | go_size), KX.out.step hb2, HQ3⟩
             case measure => simp [intOf]; omega
         · obtain rfl : k = L.length := by omega
           have hq := HQ.out.1
           rw [List.drop_length, sndL] at hq
           have HQ3 := Lib.hid hq
           clear hlt HQ hq
           obtain ⟨hlx, hllx, qx0, qx1, qx2, qx3, qx4, qx5, qx6, qx7, zx0, zx1, zx2, zx3, zx4, zx5, zx6, zx7⟩ := bf8 kx; (try simp at qx0 qx1 qx2 qx3 qx4 qx5 qx6 qx7); have Hkx := Lib.hid kx; clear kx
           go_wp2_with fail
           go_returns
           exact ⟨by rw [← HQ3.out]; rfl, hb⟩
set_option maxHeartbeats 16000000 in
theorem rsnd_16 (hk : KD w0 A L) (hb : Below w0.heap.size w0 w) (hlw : IntKind.i64.wrap (l - 1) = l1) (hdw : IntKind.i64.wrap ((d : Int) + 1) = (d1 : Int)) (hd1 : d1 = d + 1) (hd64 : d ≤ 64) (hl1 : l1 = l - 1) (h0 : 0 ≤ l1) (hl : l ≤ 5000) (hre : r.toList.isEmpty = re) (hzv : vlq vk vn vs q vm 0 0 0 ⟨#[]⟩ 0 = zv) (he4 : ((L.length : Int) != 1) = e4)
   (KW : Hid (∀ W, Calls Tryz.prog 68 #[.string r] W fun e w' => e = .returned (.bool wb) ∧ W = w'))
   (KV : Hid (∀ W, Calls Tryz.prog 22 #[.agg #[.int .i64 vk, .int .i64 vn, .int .i64 vs, .string q, .int .i64 vm]] W fun e w' => e = .returned (.bool sd) ∧ Below W.heap.size W w'))
   (hK : ∀ k ∈ L, RSndC w0 k) :
   Calls Tryz.prog 40 #[.agg #[.int .i64 16, .int .i64 vk, .int .i64 vn, .int .i64 vs, .string q, .int .i64 vm, .string r, .slice A L.length c], .int .i64 (d : Int), .int .i64 l] w fun e w' => e = .returned (.tuple #[.int .i64 (if (!e4 && okR 16 re wb zv sd nk) = true then (sndL L d1 l1).2 else l1), .bool (if (!e4 && okR 16 re wb zv sd nk) = true then (sndL L d1 l1).1 else false)]) ∧ Below w.heap.size w w' := by
 have hdi : ¬ (64 : Int) < (d : Int) := by omega
 have hli : ¬ l1 < 0 := by omega
 have HK := Lib.hid hk
 have HKK := Lib.hid hK
 have HB := Lib.hid hb
 have hn := hk.n
 have k0 : Blk (w.alloc (.cells #[.int .i64 16, .int .i64 vk, .int .i64 vn, .int .i64 vs, .string q, .int .i64 vm, .string r, .slice A L.length c] 33)) w.heap.size 33 #[.int .i64 16, .int .i64 vk, .int .i64 vn, .int .i64 vs, .string q, .int .i64 vm, .string r, .slice A L.length c] := Blk.new _ _ _
 have HR : Hid (0 ≤ l1 ∧ l1 ≤ 5000 ∧ d1 ≤ 100) := Lib.hid ⟨h0, by omega, by omega⟩
 obtain ⟨R, hR⟩ : ∃ R, sndL L d1 l1 = R := ⟨_, rfl⟩
 have HRR : Hid (sndL (L.drop 0) d1 l1 = R) := Lib.hid hR
 rw [hR]
 clear hk hK hb hR h0 hl hd64 hd1 hl1
 cases e4 with
 | true =>
   clear k0
   go_enter Tryz.func40, Tryz.ntmps40
   go_wp2_with fail
   go_returns
   exact ⟨by simp, by (repeat' first | (with_reducible first | exact .refl _ _ | assumption | apply balloc | apply Below.drew | apply bset | refine bstep ?_ ‹_› | refine bturn ?_ ‹_› ?_) | go_size)⟩
 | false =>
   cases re with
   | false =>
     have HOK : Hid (okR 16 false wb zv sd nk = false) := Lib.hid (by simp [okR, *])
     rw [HOK.out, show (!false && false) = false from rfl, if_neg (by decide), if_neg (by decide)]
     clear k0
     go_enter Tryz.func40, Tryz.ntmps40
     go_wp2_with fail
     go_returns
     exact ⟨rfl, by (repeat' first | (with_reducible first | exact .refl _ _ | assumption | apply balloc | apply Below.drew | apply bset | refine bstep ?_ ‹_› | refine bturn ?_ ‹_› ?_) | go_size)⟩
   | true =>
     cases zv with
     | false =>
       have HOK : Hid (okR 16 true wb false sd nk = false) := Lib.hid (by simp [okR, *])
       rw [HOK.out, show (!false && false) = false from rfl, if_neg (by decide), if_neg (by decide)]
       clear k0
       go_enter Tryz.func40, Tryz.ntmps40
       go_wp2_with fail
       go_returns
       exact ⟨rfl, by (repeat' first | (with_reducible first | exact .refl _ _ | assumption | apply balloc | apply Below.drew | apply bset | refine bstep ?_ ‹_› | refine bturn ?_ ‹_› ?_) | go_size)⟩
     | true =>
       have HOK : Hid (okR 16 true wb true sd nk = true) := Lib.hid (by simp [okR, *])
       rw [HOK.out, show (!false && true) = true from rfl, if_pos rfl, if_pos rfl]
       go_enter Tryz.func40, Tryz.ntmps40
       go_wp2_with fail
       go_loopw [9, 2, 10, 119] (fun i lv _ _ wr => ∃ (k : Nat) (lk : Int), k ≤ L.length ∧ i = .int .i64 (k : Int) ∧ lv = .int .i64 lk ∧ Below w.heap.size w wr ∧ Blk wr w.heap.size 33 #[.int .i64 16, .int .i64 vk, .int .i64 vn, .int .i64 vs, .string q, .int .i64 vm, .string r, .slice A L.length c] ∧ Hid (sndL (L.drop k) d1 lk = R ∧ 0 ≤ lk ∧ lk ≤ 5000)) (fun i _ _ _ _ => L.length - (intOf i).toNat)
       case atStart => exact ⟨0, l1, by omega, rfl, rfl, by (repeat' first | (with_reducible first | exact .refl _ _ | assumption | apply balloc | apply Below.drew | apply bset | refine bstep ?_ ‹_› | refine bturn ?_ ‹_› ?_) | go_size), k0, Lib.hid ⟨HRR.out, HR.out.1, HR.out.2.1⟩⟩
       case round =>
         obtain ⟨k, lk, hkk, rfl, rfl, hb, kx, HQ⟩ := hrel
         have hb0 : Below w0.heap.size w0 wr := HB.out.trans (hb.mono (by have := HB.out.size; omega))
         have KX := Lib.hid kx
         by_cases hlt : k < L.length
         · obtain ⟨x, hx⟩ : ∃ x, L[k]? = some x := ⟨L[k], List.getElem?_eq_getElem hlt⟩
           have hki : (k : Int) < (L.length : Int) := by omega
           have hkn : IntKind.i64.wrap ((k : Int) + 1) = ((k + 1 : Nat) : Int) := by rw [IntWalk.i64_in _ (by omega)]; omega
           obtain ⟨g, off, ko, kk', kn, ks, kq, km, kr, kB, kl, kc, rfl, hxm, q0, q1, q2, q3, q4, q5, q6, q7⟩ := HK.out.get k x hx
           replace q0 := keep1 hb0 q0
           replace q1 := keep1 hb0 q1
           replace q2 := keep1 hb0 q2
           replace q3 := keep1 hb0 q3
           replace q4 := keep1 hb0 q4
           replace q5 := keep1 hb0 q5
           replace q6 := keep1 hb0 q6
           replace q7 := keep1 hb0 q7
           have KC := Lib.hid (HKK.out x (List.mem_of_getElem? hx) _ d1 lk wr hxm hb0 HR.out.2.2 HQ.out.2.1 HQ.out.2.2)
           have hq := HQ.out.1
           rw [sndL_at hx] at hq
           obtain ⟨b, hbb⟩ : ∃ b, (sndE x d1 lk).1 = b := ⟨_, rfl⟩
           obtain ⟨l2, hl2⟩ : ∃ b, (sndE x d1 lk).2 = b := ⟨_, rfl⟩
           have hbd : b = true → 0 ≤ l2 ∧ l2 ≤ 5000 := fun h => by
             obtain ⟨_, _, e2, e3⟩ := sndE_true x d1 lk (hbb.trans h)
             rw [hl2] at e2 e3
             exact ⟨e3, by have := HQ.out.2.2; omega⟩
           rw [hbb, hl2] at KC hq
           have HQ2 := Lib.hid hq
           have HBD := Lib.hid hbd
           clear hx hxm hq hbb hl2 HQ hbd
           obtain ⟨hlx, hllx, qx0, qx1, qx2, qx3, qx4, qx5, qx6, qx7, zx0, zx1, zx2, zx3, zx4, zx5, zx6, zx7⟩ := bf8 kx; (try simp at qx0 qx1 qx2 qx3 qx4 qx5 qx6 qx7); have Hkx := Lib.hid kx; clear kx
           go_wp2_with fail
           refine (KC.out).mono ?_
           rintro e w2 ⟨rfl, hb2⟩
           clear q0 q1 q2 q3 q4 q5 q6 q7 qx0 qx1 qx2 qx3 qx4 qx5 qx6 qx7 zx0 zx1 zx2 zx3 zx4 zx5 zx6 zx7 hlx hllx
           cases b with
           | false =>
             go_wp2_with fail
             go_returns
             exact ⟨by rw [← HQ2.out]; simp, by (repeat' first | (with_reducible first | exact .refl _ _ | assumption | apply balloc | apply Below.drew | apply bset | refine bstep ?_ ‹_› | refine bturn ?_ ‹_› ?_) | go_size)⟩
           | true =>
             have hq := HQ2.out
             rw [if_pos rfl] at hq
             have HQ3 : Hid (sndL (L.drop (k + 1)) d1 l2 = R ∧ 0 ≤ l2 ∧ l2 ≤ 5000) := Lib.hid ⟨hq, HBD.out rfl⟩
             clear hq HQ2 HBD
             go_wp2_with fail
             go_roundw
             case rel => exact ⟨k + 1, l2, by omega, by go_num, rfl, by (repeat' first | (with_reducible first | exact .refl _ _ | assumption | apply balloc | apply Below.drew | apply bset | refine bstep ?_ ‹_› | refine bturn ?_ ‹_› ?_) | go_size), KX.out.step hb2, HQ3⟩
             case measure => simp [intOf]; omega
         · obtain rfl : k = L.length := by omega
           have hq := HQ.out.1
           rw [List.drop_length, sndL] at hq
           have HQ3 := Lib.hid hq
           clear hlt HQ hq
           obtain ⟨hlx, hllx, qx0, qx1, qx2, qx3, qx4, qx5, qx6, qx7, zx0, zx1, zx2, zx3, zx4, zx5, zx6, zx7⟩ := bf8 kx; (try simp at qx0 qx1 qx2 qx3 qx4 qx5 qx6 qx7); have Hkx := Lib.hid kx; clear kx
           go_wp2_with fail
           go_returns
           exact ⟨by rw [← HQ3.out]; rfl, hb⟩
set_option maxHeartbeats 16000000 in
theorem rsnd_17 (hk : KD w0 A L) (hb : Below w0.heap.size w0 w) (hlw : IntKind.i64.wrap (l - 1) = l1) (hdw : IntKind.i64.wrap ((d : Int) + 1) = (d1 : Int)) (hd1 : d1 = d + 1) (hd64 : d ≤ 64) (hl1 : l1 = l - 1) (h0 : 0 ≤ l1) (hl : l ≤ 5000) (hre : r.toList.isEmpty = re) (hzv : vlq vk vn vs q vm 0 0 0 ⟨#[]⟩ 0 = zv) (he4 : ((L.length : Int) != 3) = e4)
   (KW : Hid (∀ W, Calls Tryz.prog 68 #[.string r] W fun e w' => e = .returned (.bool wb) ∧ W = w'))
   (KV : Hid (∀ W, Calls Tryz.prog 22 #[.agg #[.int .i64 vk, .int .i64 vn, .int .i64 vs, .string q, .int .i64 vm]] W fun e w' => e = .returned (.bool sd) ∧ Below W.heap.size W w'))
   (hK : ∀ k ∈ L, RSndC w0 k) :
   Calls Tryz.prog 40 #[.agg #[.int .i64 17, .int .i64 vk, .int .i64 vn, .int .i64 vs, .string q, .int .i64 vm, .string r, .slice A L.length c], .int .i64 (d : Int), .int .i64 l] w fun e w' => e = .returned (.tuple #[.int .i64 (if (!e4 && okR 17 re wb zv sd nk) = true then (sndL L d1 l1).2 else l1), .bool (if (!e4 && okR 17 re wb zv sd nk) = true then (sndL L d1 l1).1 else false)]) ∧ Below w.heap.size w w' := by
 have hdi : ¬ (64 : Int) < (d : Int) := by omega
 have hli : ¬ l1 < 0 := by omega
 have HK := Lib.hid hk
 have HKK := Lib.hid hK
 have HB := Lib.hid hb
 have hn := hk.n
 have k0 : Blk (w.alloc (.cells #[.int .i64 17, .int .i64 vk, .int .i64 vn, .int .i64 vs, .string q, .int .i64 vm, .string r, .slice A L.length c] 33)) w.heap.size 33 #[.int .i64 17, .int .i64 vk, .int .i64 vn, .int .i64 vs, .string q, .int .i64 vm, .string r, .slice A L.length c] := Blk.new _ _ _
 have HR : Hid (0 ≤ l1 ∧ l1 ≤ 5000 ∧ d1 ≤ 100) := Lib.hid ⟨h0, by omega, by omega⟩
 obtain ⟨R, hR⟩ : ∃ R, sndL L d1 l1 = R := ⟨_, rfl⟩
 have HRR : Hid (sndL (L.drop 0) d1 l1 = R) := Lib.hid hR
 rw [hR]
 clear hk hK hb hR h0 hl hd64 hd1 hl1
 cases e4 with
 | true =>
   clear k0
   go_enter Tryz.func40, Tryz.ntmps40
   go_wp2_with fail
   go_returns
   exact ⟨by simp, by (repeat' first | (with_reducible first | exact .refl _ _ | assumption | apply balloc | apply Below.drew | apply bset | refine bstep ?_ ‹_› | refine bturn ?_ ‹_› ?_) | go_size)⟩
 | false =>
   cases re with
   | false =>
     have HOK : Hid (okR 17 false wb zv sd nk = false) := Lib.hid (by simp [okR, *])
     rw [HOK.out, show (!false && false) = false from rfl, if_neg (by decide), if_neg (by decide)]
     clear k0
     go_enter Tryz.func40, Tryz.ntmps40
     go_wp2_with fail
     go_returns
     exact ⟨rfl, by (repeat' first | (with_reducible first | exact .refl _ _ | assumption | apply balloc | apply Below.drew | apply bset | refine bstep ?_ ‹_› | refine bturn ?_ ‹_› ?_) | go_size)⟩
   | true =>
     cases zv with
     | false =>
       have HOK : Hid (okR 17 true wb false sd nk = false) := Lib.hid (by simp [okR, *])
       rw [HOK.out, show (!false && false) = false from rfl, if_neg (by decide), if_neg (by decide)]
       clear k0
       go_enter Tryz.func40, Tryz.ntmps40
       go_wp2_with fail
       go_returns
       exact ⟨rfl, by (repeat' first | (with_reducible first | exact .refl _ _ | assumption | apply balloc | apply Below.drew | apply bset | refine bstep ?_ ‹_› | refine bturn ?_ ‹_› ?_) | go_size)⟩
     | true =>
       have HOK : Hid (okR 17 true wb true sd nk = true) := Lib.hid (by simp [okR, *])
       rw [HOK.out, show (!false && true) = true from rfl, if_pos rfl, if_pos rfl]
       go_enter Tryz.func40, Tryz.ntmps40
       go_wp2_with fail
       go_loopw [9, 2, 10, 119] (fun i lv _ _ wr => ∃ (k : Nat) (lk : Int), k ≤ L.length ∧ i = .int .i64 (k : Int) ∧ lv = .int .i64 lk ∧ Below w.heap.size w wr ∧ Blk wr w.heap.size 33 #[.int .i64 17, .int .i64 vk, .int .i64 vn, .int .i64 vs, .string q, .int .i64 vm, .string r, .slice A L.length c] ∧ Hid (sndL (L.drop k) d1 lk = R ∧ 0 ≤ lk ∧ lk ≤ 5000)) (fun i _ _ _ _ => L.length - (intOf i).toNat)
       case atStart => exact ⟨0, l1, by omega, rfl, rfl, by (repeat' first | (with_reducible first | exact .refl _ _ | assumption | apply balloc | apply Below.drew | apply bset | refine bstep ?_ ‹_› | refine bturn ?_ ‹_› ?_) | go_size), k0, Lib.hid ⟨HRR.out, HR.out.1, HR.out.2.1⟩⟩
       case round =>
         obtain ⟨k, lk, hkk, rfl, rfl, hb, kx, HQ⟩ := hrel
         have hb0 : Below w0.heap.size w0 wr := HB.out.trans (hb.mono (by have := HB.out.size; omega))
         have KX := Lib.hid kx
         by_cases hlt : k < L.length
         · obtain ⟨x, hx⟩ : ∃ x, L[k]? = some x := ⟨L[k], List.getElem?_eq_getElem hlt⟩
           have hki : (k : Int) < (L.length : Int) := by omega
           have hkn : IntKind.i64.wrap ((k : Int) + 1) = ((k + 1 : Nat) : Int) := by rw [IntWalk.i64_in _ (by omega)]; omega
           obtain ⟨g, off, ko, kk', kn, ks, kq, km, kr, kB, kl, kc, rfl, hxm, q0, q1, q2, q3, q4, q5, q6, q7⟩ := HK.out.get k x hx
           replace q0 := keep1 hb0 q0
           replace q1 := keep1 hb0 q1
           replace q2 := keep1 hb0 q2
           replace q3 := keep1 hb0 q3
           replace q4 := keep1 hb0 q4
           replace q5 := keep1 hb0 q5
           replace q6 := keep1 hb0 q6
           replace q7 := keep1 hb0 q7
           have KC := Lib.hid (HKK.out x (List.mem_of_getElem? hx) _ d1 lk wr hxm hb0 HR.out.2.2 HQ.out.2.1 HQ.out.2.2)
           have hq := HQ.out.1
           rw [sndL_at hx] at hq
           obtain ⟨b, hbb⟩ : ∃ b, (sndE x d1 lk).1 = b := ⟨_, rfl⟩
           obtain ⟨l2, hl2⟩ : ∃ b, (sndE x d1 lk).2 = b := ⟨_, rfl⟩
           have hbd : b = true → 0 ≤ l2 ∧ l2 ≤ 5000 := fun h => by
             obtain ⟨_, _, e2, e3⟩ := sndE_true x d1 lk (hbb.trans h)
             rw [hl2] at e2 e3
             exact ⟨e3, by have := HQ.out.2.2; omega⟩
           rw [hbb, hl2] at KC hq
           have HQ2 := Lib.hid hq
           have HBD := Lib.hid hbd
           clear hx hxm hq hbb hl2 HQ hbd
           obtain ⟨hlx, hllx, qx0, qx1, qx2, qx3, qx4, qx5, qx6, qx7, zx0, zx1, zx2, zx3, zx4, zx5, zx6, zx7⟩ := bf8 kx; (try simp at qx0 qx1 qx2 qx3 qx4 qx5 qx6 qx7); have Hkx := Lib.hid kx; clear kx
           go_wp2_with fail
           refine (KC.out).mono ?_
           rintro e w2 ⟨rfl, hb2⟩
           clear q0 q1 q2 q3 q4 q5 q6 q7 qx0 qx1 qx2 qx3 qx4 qx5 qx6 qx7 zx0 zx1 zx2 zx3 zx4 zx5 zx6 zx7 hlx hllx
           cases b with
           | false =>
             go_wp2_with fail
             go_returns
             exact ⟨by rw [← HQ2.out]; simp, by (repeat' first | (with_reducible first | exact .refl _ _ | assumption | apply balloc | apply Below.drew | apply bset | refine bstep ?_ ‹_› | refine bturn ?_ ‹_› ?_) | go_size)⟩
           | true =>
             have hq := HQ2.out
             rw [if_pos rfl] at hq
             have HQ3 : Hid (sndL (L.drop (k + 1)) d1 l2 = R ∧ 0 ≤ l2 ∧ l2 ≤ 5000) := Lib.hid ⟨hq, HBD.out rfl⟩
             clear hq HQ2 HBD
             go_wp2_with fail
             go_roundw
             case rel => exact ⟨k + 1, l2, by omega, by go_num, rfl, by (repeat' first | (with_reducible first | exact .refl _ _ | assumption | apply balloc | apply Below.drew | apply bset | refine bstep ?_ ‹_› | refine bturn ?_ ‹_› ?_) | go_size), KX.out.step hb2, HQ3⟩
             case measure => simp [intOf]; omega
         · obtain rfl : k = L.length := by omega
           have hq := HQ.out.1
           rw [List.drop_length, sndL] at hq
           have HQ3 := Lib.hid hq
           clear hlt HQ hq
           obtain ⟨hlx, hllx, qx0, qx1, qx2, qx3, qx4, qx5, qx6, qx7, zx0, zx1, zx2, zx3, zx4, zx5, zx6, zx7⟩ := bf8 kx; (try simp at qx0 qx1 qx2 qx3 qx4 qx5 qx6 qx7); have Hkx := Lib.hid kx; clear kx
           go_wp2_with fail
           go_returns
           exact ⟨by rw [← HQ3.out]; rfl, hb⟩
set_option maxHeartbeats 16000000 in
theorem rsnd_bin (o : Int) (h4 : 4 ≤ o) (h15 : o ≤ 15) (hk : KD w0 A L) (hb : Below w0.heap.size w0 w) (hlw : IntKind.i64.wrap (l - 1) = l1) (hdw : IntKind.i64.wrap ((d : Int) + 1) = (d1 : Int)) (hd1 : d1 = d + 1) (hd64 : d ≤ 64) (hl1 : l1 = l - 1) (h0 : 0 ≤ l1) (hl : l ≤ 5000) (hre : r.toList.isEmpty = re) (hzv : vlq vk vn vs q vm 0 0 0 ⟨#[]⟩ 0 = zv) (he4 : ((L.length : Int) != 2) = e4)
   (KW : Hid (∀ W, Calls Tryz.prog 68 #[.string r] W fun e w' => e = .returned (.bool wb) ∧ W = w'))
   (KV : Hid (∀ W, Calls Tryz.prog 22 #[.agg #[.int .i64 vk, .int .i64 vn, .int .i64 vs, .string q, .int .i64 vm]] W fun e w' => e = .returned (.bool sd) ∧ Below W.heap.size W w'))
   (hK : ∀ k ∈ L, RSndC w0 k) :
   Calls Tryz.prog 40 #[.agg #[.int .i64 o, .int .i64 vk, .int .i64 vn, .int .i64 vs, .string q, .int .i64 vm, .string r, .slice A L.length c], .int .i64 (d : Int), .int .i64 l] w fun e w' => e = .returned (.tuple #[.int .i64 (if (!e4 && okR o re wb zv sd nk) = true then (sndL L d1 l1).2 else l1), .bool (if (!e4 && okR o re wb zv sd nk) = true then (sndL L d1 l1).1 else false)]) ∧ Below w.heap.size w w' := by
 have hdi : ¬ (64 : Int) < (d : Int) := by omega
 have hli : ¬ l1 < 0 := by omega
 have a1 : (o == 1) = false := by rw [beq_eq_false_iff_ne]; omega
 have a2 : (o == 2) = false := by rw [beq_eq_false_iff_ne]; omega
 have a3 : (o == 3) = false := by rw [beq_eq_false_iff_ne]; omega
 have a4 : (o == 16) = false := by rw [beq_eq_false_iff_ne]; omega
 have a5 : (o == 17) = false := by rw [beq_eq_false_iff_ne]; omega
 have a6 : ¬ o < 1 := by omega
 have a7 : ¬ (17 : Int) < o := by omega
 have a8 : (o != 2) = true := by simp; omega
 have a9 : (o != 1) = true := by simp; omega
 have a10 : ¬ o = 1 := by omega
 have a11 : ¬ o = 2 := by omega
 have HK := Lib.hid hk
 have HKK := Lib.hid hK
 have HB := Lib.hid hb
 have hn := hk.n
 have k0 : Blk (w.alloc (.cells #[.int .i64 o, .int .i64 vk, .int .i64 vn, .int .i64 vs, .string q, .int .i64 vm, .string r, .slice A L.length c] 33)) w.heap.size 33 #[.int .i64 o, .int .i64 vk, .int .i64 vn, .int .i64 vs, .string q, .int .i64 vm, .string r, .slice A L.length c] := Blk.new _ _ _
 have HR : Hid (0 ≤ l1 ∧ l1 ≤ 5000 ∧ d1 ≤ 100) := Lib.hid ⟨h0, by omega, by omega⟩
 obtain ⟨R, hR⟩ : ∃ R, sndL L d1 l1 = R := ⟨_, rfl⟩
 have HRR : Hid (sndL (L.drop 0) d1 l1 = R) := Lib.hid hR
 rw [hR]
 clear hk hK hb hR h0 hl hd64 hd1 hl1 h4 h15
 cases e4 with
 | true =>
   clear k0
   go_enter Tryz.func40, Tryz.ntmps40
   go_wp2_with fail
   go_returns
   exact ⟨by simp, by (repeat' first | (with_reducible first | exact .refl _ _ | assumption | apply balloc | apply Below.drew | apply bset | refine bstep ?_ ‹_› | refine bturn ?_ ‹_› ?_) | go_size)⟩
 | false =>
   cases re with
   | false =>
     have HOK : Hid (okR o false wb zv sd nk = false) := Lib.hid (by simp [okR, *])
     rw [HOK.out, show (!false && false) = false from rfl, if_neg (by decide), if_neg (by decide)]
     clear k0
     go_enter Tryz.func40, Tryz.ntmps40
     go_wp2_with fail
     go_returns
     exact ⟨rfl, by (repeat' first | (with_reducible first | exact .refl _ _ | assumption | apply balloc | apply Below.drew | apply bset | refine bstep ?_ ‹_› | refine bturn ?_ ‹_› ?_) | go_size)⟩
   | true =>
     cases zv with
     | false =>
       have HOK : Hid (okR o true wb false sd nk = false) := Lib.hid (by simp [okR, *])
       rw [HOK.out, show (!false && false) = false from rfl, if_neg (by decide), if_neg (by decide)]
       clear k0
       go_enter Tryz.func40, Tryz.ntmps40
       go_wp2_with fail
       go_returns
       exact ⟨rfl, by (repeat' first | (with_reducible first | exact .refl _ _ | assumption | apply balloc | apply Below.drew | apply bset | refine bstep ?_ ‹_› | refine bturn ?_ ‹_› ?_) | go_size)⟩
     | true =>
       have HOK : Hid (okR o true wb true sd nk = true) := Lib.hid (by simp [okR, *])
       rw [HOK.out, show (!false && true) = true from rfl, if_pos rfl, if_pos rfl]
       go_enter Tryz.func40, Tryz.ntmps40
       go_wp2_with fail
       go_loopw [9, 2, 10, 119] (fun i lv _ _ wr => ∃ (k : Nat) (lk : Int), k ≤ L.length ∧ i = .int .i64 (k : Int) ∧ lv = .int .i64 lk ∧ Below w.heap.size w wr ∧ Blk wr w.heap.size 33 #[.int .i64 o, .int .i64 vk, .int .i64 vn, .int .i64 vs, .string q, .int .i64 vm, .string r, .slice A L.length c] ∧ Hid (sndL (L.drop k) d1 lk = R ∧ 0 ≤ lk ∧ lk ≤ 5000)) (fun i _ _ _ _ => L.length - (intOf i).toNat)
       case atStart => exact ⟨0, l1, by omega, rfl, rfl, by (repeat' first | (with_reducible first | exact .refl _ _ | assumption | apply balloc | apply Below.drew | apply bset | refine bstep ?_ ‹_› | refine bturn ?_ ‹_› ?_) | go_size), k0, Lib.hid ⟨HRR.out, HR.out.1, HR.out.2.1⟩⟩
       case round =>
         obtain ⟨k, lk, hkk, rfl, rfl, hb, kx, HQ⟩ := hrel
         have hb0 : Below w0.heap.size w0 wr := HB.out.trans (hb.mono (by have := HB.out.size; omega))
         have KX := Lib.hid kx
         by_cases hlt : k < L.length
         · obtain ⟨x, hx⟩ : ∃ x, L[k]? = some x := ⟨L[k], List.getElem?_eq_getElem hlt⟩
           have hki : (k : Int) < (L.length : Int) := by omega
           have hkn : IntKind.i64.wrap ((k : Int) + 1) = ((k + 1 : Nat) : Int) := by rw [IntWalk.i64_in _ (by omega)]; omega
           obtain ⟨g, off, ko, kk', kn, ks, kq, km, kr, kB, kl, kc, rfl, hxm, q0, q1, q2, q3, q4, q5, q6, q7⟩ := HK.out.get k x hx
           replace q0 := keep1 hb0 q0
           replace q1 := keep1 hb0 q1
           replace q2 := keep1 hb0 q2
           replace q3 := keep1 hb0 q3
           replace q4 := keep1 hb0 q4
           replace q5 := keep1 hb0 q5
           replace q6 := keep1 hb0 q6
           replace q7 := keep1 hb0 q7
           have KC := Lib.hid (HKK.out x (List.mem_of_getElem? hx) _ d1 lk wr hxm hb0 HR.out.2.2 HQ.out.2.1 HQ.out.2.2)
           have hq := HQ.out.1
           rw [sndL_at hx] at hq
           obtain ⟨b, hbb⟩ : ∃ b, (sndE x d1 lk).1 = b := ⟨_, rfl⟩
           obtain ⟨l2, hl2⟩ : ∃ b, (sndE x d1 lk).2 = b := ⟨_, rfl⟩
           have hbd : b = true → 0 ≤ l2 ∧ l2 ≤ 5000 := fun h => by
             obtain ⟨_, _, e2, e3⟩ := sndE_true x d1 lk (hbb.trans h)
             rw [hl2] at e2 e3
             exact ⟨e3, by have := HQ.out.2.2; omega⟩
           rw [hbb, hl2] at KC hq
           have HQ2 := Lib.hid hq
           have HBD := Lib.hid hbd
           clear hx hxm hq hbb hl2 HQ hbd
           obtain ⟨hlx, hllx, qx0, qx1, qx2, qx3, qx4, qx5, qx6, qx7, zx0, zx1, zx2, zx3, zx4, zx5, zx6, zx7⟩ := bf8 kx; (try simp at qx0 qx1 qx2 qx3 qx4 qx5 qx6 qx7); have Hkx := Lib.hid kx; clear kx
           go_wp2_with fail
           refine (KC.out).mono ?_
           rintro e w2 ⟨rfl, hb2⟩
           clear q0 q1 q2 q3 q4 q5 q6 q7 qx0 qx1 qx2 qx3 qx4 qx5 qx6 qx7 zx0 zx1 zx2 zx3 zx4 zx5 zx6 zx7 hlx hllx
           cases b with
           | false =>
             go_wp2_with fail
             go_returns
             exact ⟨by rw [← HQ2.out]; simp, by (repeat' first | (with_reducible first | exact .refl _ _ | assumption | apply balloc | apply Below.drew | apply bset | refine bstep ?_ ‹_› | refine bturn ?_ ‹_› ?_) | go_size)⟩
           | true =>
             have hq := HQ2.out
             rw [if_pos rfl] at hq
             have HQ3 : Hid (sndL (L.drop (k + 1)) d1 l2 = R ∧ 0 ≤ l2 ∧ l2 ≤ 5000) := Lib.hid ⟨hq, HBD.out rfl⟩
             clear hq HQ2 HBD
             go_wp2_with fail
             go_roundw
             case rel => exact ⟨k + 1, l2, by omega, by go_num, rfl, by (repeat' first | (with_reducible first | exact .refl _ _ | assumption | apply balloc | apply Below.drew | apply bset | refine bstep ?_ ‹_› | refine bturn ?_ ‹_› ?_) | go_size), KX.out.step hb2, HQ3⟩
             case measure => simp [intOf]; omega
         · obtain rfl : k = L.length := by omega
           have hq := HQ.out.1
           rw [List.drop_length, sndL] at hq
           have HQ3 := Lib.hid hq
           clear hlt HQ hq
           obtain ⟨hlx, hllx, qx0, qx1, qx2, qx3, qx4, qx5, qx6, qx7, zx0, zx1, zx2, zx3, zx4, zx5, zx6, zx7⟩ := bf8 kx; (try simp at qx0 qx1 qx2 qx3 qx4 qx5 qx6 qx7); have Hkx := Lib.hid kx; clear kx
           go_wp2_with fail
           go_returns
           exact ⟨by rw [← HQ3.out]; rfl, hb⟩
end
end Go.Proofs.YtapilekangmcoaaGreatDoor
namespace Go.Proofs.YtapilekangmcoaaGreatDoor
open Go.RowKit
theorem rsnd_deep (o vk vn vs vm : Int) (q r : ByteArray) (A : Option Addr) (n c d : Nat) (l l1 : Int) (w : World) (hlw : IntKind.i64.wrap (l - 1) = l1) (h : 64 < d ∨ l1 < 0) :
   Calls Tryz.prog 40 #[.agg #[.int .i64 o, .int .i64 vk, .int .i64 vn, .int .i64 vs, .string q, .int .i64 vm, .string r, .slice A n c], .int .i64 (d : Int), .int .i64 l] w fun e w' => e = .returned (.tuple #[.int .i64 l1, .bool false]) ∧ Below w.heap.size w w' := by
 by_cases hd : 64 < d
 · have hdi : (64 : Int) < (d : Int) := by omega
   clear h hd
   go_enter Tryz.func40, Tryz.ntmps40
   go_wp2_with fail
   go_returns
   exact ⟨rfl, by (repeat' first | (with_reducible first | exact .refl _ _ | assumption | apply balloc | apply Below.drew | apply bset | refine bstep ?_ ‹_› | refine bturn ?_ ‹_› ?_) | go_size)⟩
 · have hdi : ¬ (64 : Int) < (d : Int) := by omega
   have hli : l1 < 0 := by omega
   clear h hd
   go_enter Tryz.func40, Tryz.ntmps40
   go_wp2_with fail
   go_returns
   exact ⟨rfl, by (repeat' first | (with_reducible first | exact .refl _ _ | assumption | apply balloc | apply Below.drew | apply bset | refine bstep ?_ ‹_› | refine bturn ?_ ‹_› ?_) | go_size)⟩
theorem rsnd_op (o vk vn vs vm : Int) (q r : ByteArray) (A : Option Addr) (n c d : Nat) (l l1 : Int) (w : World) (hlw : IntKind.i64.wrap (l - 1) = l1) (hd : d ≤ 64) (hl : 0 ≤ l1) (ho : o < 1 ∨ 17 < o) :
   Calls Tryz.prog 40 #[.agg #[.int .i64 o, .int .i64 vk, .int .i64 vn, .int .i64 vs, .string q, .int .i64 vm, .string r, .slice A n c], .int .i64 (d : Int), .int .i64 l] w fun e w' => e = .returned (.tuple #[.int .i64 l1, .bool false]) ∧ Below w.heap.size w w' := by
 have hdi : ¬ (64 : Int) < (d : Int) := by omega
 have hli : ¬ l1 < 0 := by omega
 have a1 : (o == 1) = false := by rw [beq_eq_false_iff_ne]; omega
 have a2 : (o == 2) = false := by rw [beq_eq_false_iff_ne]; omega
 have a3 : (o == 3) = false := by rw [beq_eq_false_iff_ne]; omega
 have a4 : (o == 16) = false := by rw [beq_eq_false_iff_ne]; omega
 have a5 : (o == 17) = false := by rw [beq_eq_false_iff_ne]; omega
 by_cases h1 : o < 1
 · clear ho hd hl
   go_enter Tryz.func40, Tryz.ntmps40
   go_wp2_with fail
   go_returns
   exact ⟨rfl, by (repeat' first | (with_reducible first | exact .refl _ _ | assumption | apply balloc | apply Below.drew | apply bset | refine bstep ?_ ‹_› | refine bturn ?_ ‹_› ?_) | go_size)⟩
 · have h2 : 17 < o := by omega
   clear ho hd hl
   go_enter Tryz.func40, Tryz.ntmps40
   go_wp2_with fail
   go_returns
   exact ⟨rfl, by (repeat' first | (with_reducible first | exact .refl _ _ | assumption | apply balloc | apply Below.drew | apply bset | refine bstep ?_ ‹_› | refine bturn ?_ ‹_› ?_) | go_size)⟩
open Classical in
theorem okR_eq (o : Int) (v : Vl) (s : Bs) : okR o (bs s).toList.isEmpty (wordB s) (vlq v.k v.n v.s (bs v.t) v.m 0 0 0 ⟨#[]⟩ 0) (decide (vSound v)) (decide (v.k = 1) && decide (v.n < 0)) = okE o v s := by
 have main : okR o (bs s).toList.isEmpty (wordB s) (vlq v.k v.n v.s (bs v.t) v.m 0 0 0 ⟨#[]⟩ 0) (decide (vSound v)) (decide (v.k = 1) && decide (v.n < 0)) = true ↔ okP o v s := by
   have he : (bs s).toList.isEmpty = true ↔ s = [] := by rw [bs_empty]; exact List.isEmpty_iff
   have hn : vSound v → (¬ (v.k = 1 ∧ v.n < 0) ↔ 0 ≤ v.n) := fun h => by
     constructor
     · intro g
       rcases h with h | h | h | h | h
       · rw [h.2.1]; decide
       · have := h.1; omega
       · rw [h.2.1]; decide
       · rw [h.2.1]; decide
       · rw [h.2.1]; decide
     · omega
   unfold okR okP
   by_cases h2 : o = 2
   · subst h2
     rw [if_pos rfl, if_pos rfl, if_neg (by decide)]
     simp only [Bool.and_eq_true, vlq_zero]
   · rw [if_neg h2, if_neg h2]
     by_cases h1 : o = 1
     · subst h1
       rw [if_pos rfl, if_pos rfl]
       simp only [Bool.and_eq_true, Bool.not_eq_true', Bool.and_eq_false_iff, decide_eq_true_eq, decide_eq_false_iff_not, he]
       constructor
       · rintro ⟨a, b, c⟩
         exact ⟨a, b, (hn b).1 (by omega)⟩
       · rintro ⟨a, b, c⟩
         exact ⟨a, b, by have := (hn b).2 c; omega⟩
     · rw [if_neg h1, if_neg h1]
       simp only [Bool.and_eq_true, vlq_zero, he]
 cases hb : okE o v s with
 | true => exact main.2 (okE_iff.1 hb)
 | false =>
   cases hc : okR o (bs s).toList.isEmpty (wordB s) (vlq v.k v.n v.s (bs v.t) v.m 0 0 0 ⟨#[]⟩ 0) (decide (vSound v)) (decide (v.k = 1) && decide (v.n < 0)) with
   | false => rfl
   | true => rw [okE_iff.2 (main.1 hc)] at hb; cases hb
theorem rsnd_all (w0 : World) : ∀ x, EV x → RSndC w0 x := by
 intro x
 induction x using ex_ind with
 | h o v s kids ih =>
   intro hev cs d l w hx hb hd hl0 hl
   obtain ⟨A, c, rfl, hk⟩ := hx.kd
   cases hev with
   | mk _ _ _ _ hv hkv =>
     have hwr : IntKind.i64.wrap (l - 1) = l - 1 := IntWalk.i64_in _ (by omega)
     by_cases c1 : d ≤ 64 ∧ 0 ≤ l - 1
     · have hdw : IntKind.i64.wrap ((d : Int) + 1) = ((d + 1 : Nat) : Int) := by rw [IntWalk.i64_in _ (by omega)]; omega
       have E : sndE (.mk o v s kids) d l = if (!((kids.length : Int) != kidsN o) && okE o v s) = true then sndL kids (d + 1) (l - 1) else (false, l - 1) := by
         rw [sndE]
         by_cases hc : (kids.length : Int) = kidsN o ∧ okE o v s = true
         · rw [if_pos ⟨c1.1, c1.2, hc.1, hc.2⟩, if_pos (by simp [hc.1, hc.2])]
         · rw [if_neg (fun h => hc ⟨h.2.2.1, h.2.2.2⟩), if_neg (fun h => hc (by simpa using h))]
       by_cases ho : o < 1 ∨ 17 < o
       · have hkn : kidsN o = -1 := by
           unfold kidsN
           rw [if_neg (by omega), if_neg (by omega), if_neg (by omega), if_neg (by omega)]
         have hne : ¬ (kids.length : Int) = kidsN o := by rw [hkn]; omega
         rw [E, if_neg (by simp [hne])]
         exact rsnd_op o _ _ _ _ _ _ _ _ _ d l (l - 1) w hwr c1.1 c1.2 ho
       · have KW : Hid (∀ W, Calls Tryz.prog 68 #[.string (bs s)] W fun e w' => e = .returned (.bool (wordB s)) ∧ W = w') := Lib.hid fun W => rword_any (bs s) s rfl (wordB s) rfl W
         have KV : Hid (∀ W, Calls Tryz.prog 22 #[.agg #[.int .i64 v.k, .int .i64 v.n, .int .i64 v.s, .string (bs v.t), .int .i64 v.m]] W fun e w' => e = .returned (.bool (@decide (vSound v) (Classical.propDecidable _))) ∧ Below W.heap.size W w') := Lib.hid fun W => r4_any v hv W
         have hK : ∀ k ∈ kids, RSndC w0 k := fun k hkm => ih k hkm (hkv k hkm)
         have close : ∀ (want : Int), want = kidsN o → ∀ (R : Bool × Int), R = sndL kids (d + 1) (l - 1) →
             (Ending.returned (.tuple #[.int .i64 (if (!((kids.length : Int) != want) && okR o (bs s).toList.isEmpty (wordB s) (vlq v.k v.n v.s (bs v.t) v.m 0 0 0 ⟨#[]⟩ 0) (@decide (vSound v) (Classical.propDecidable _)) (decide (v.k = 1) && decide (v.n < 0))) = true then R.2 else l - 1), .bool (if (!((kids.length : Int) != want) && okR o (bs s).toList.isEmpty (wordB s) (vlq v.k v.n v.s (bs v.t) v.m 0 0 0 ⟨#[]⟩ 0) (@decide (vSound v) (Classical.propDecidable _)) (decide (v.k = 1) && decide (v.n < 0))) = true then R.1 else false)]))
               = .returned (.tuple #[.int .i64 (sndE (.mk o v s kids) d l).2, .bool (sndE (.mk o v s kids) d l).1]) := by
           rintro want rfl R rfl
           rw [okR_eq, E]
           by_cases hc : (!((kids.length : Int) != kidsN o) && okE o v s) = true
           · rw [if_pos hc, if_pos hc, if_pos hc]
           · rw [if_neg hc, if_neg hc, if_neg hc]
         by_cases h1 : o = 1
         · subst h1
           refine (rsnd_1 v.k v.n v.s v.m (bs v.t) (bs s) A c d (d + 1) kids l (l - 1) w0 w _ (wordB s) _ _ _ _ rfl hk hb hwr hdw rfl c1.1 rfl c1.2 hl rfl rfl rfl KW KV hK).mono ?_
           rintro e w' ⟨rfl, h⟩
           exact ⟨close 0 rfl _ rfl, h⟩
         by_cases h2 : o = 2
         · subst h2
           refine (rsnd_2 v.k v.n v.s v.m (bs v.t) (bs s) A c d (d + 1) kids l (l - 1) w0 w _ (wordB s) _ _ (decide (v.k = 1) && decide (v.n < 0)) _ hk hb hwr hdw rfl c1.1 rfl c1.2 hl rfl rfl rfl KW KV hK).mono ?_
           rintro e w' ⟨rfl, h⟩
           exact ⟨close 0 rfl _ rfl, h⟩
         by_cases h3 : o = 3
         · subst h3
           refine (rsnd_3 v.k v.n v.s v.m (bs v.t) (bs s) A c d (d + 1) kids l (l - 1) w0 w _ (wordB s) _ _ (decide (v.k = 1) && decide (v.n < 0)) _ hk hb hwr hdw rfl c1.1 rfl c1.2 hl rfl rfl rfl KW KV hK).mono ?_
           rintro e w' ⟨rfl, h⟩
           exact ⟨close 1 rfl _ rfl, h⟩
         by_cases h16 : o = 16
         · subst h16
           refine (rsnd_16 v.k v.n v.s v.m (bs v.t) (bs s) A c d (d + 1) kids l (l - 1) w0 w _ (wordB s) _ _ (decide (v.k = 1) && decide (v.n < 0)) _ hk hb hwr hdw rfl c1.1 rfl c1.2 hl rfl rfl rfl KW KV hK).mono ?_
           rintro e w' ⟨rfl, h⟩
           exact ⟨close 1 rfl _ rfl, h⟩
         by_cases h17 : o = 17
         · subst h17
           refine (rsnd_17 v.k v.n v.s v.m (bs v.t) (bs s) A c d (d + 1) kids l (l - 1) w0 w _ (wordB s) _ _ (decide (v.k = 1) && decide (v.n < 0)) _ hk hb hwr hdw rfl c1.1 rfl c1.2 hl rfl rfl rfl KW KV hK).mono ?_
           rintro e w' ⟨rfl, h⟩
           exact ⟨close 3 rfl _ rfl, h⟩
         · refine (rsnd_bin v.k v.n v.s v.m (bs v.t) (bs s) A c d (d + 1) kids l (l - 1) w0 w _ (wordB s) _ _ (decide (v.k = 1) && decide (v.n < 0)) _ o (by omega) (by omega) hk hb hwr hdw rfl c1.1 rfl c1.2 hl rfl rfl rfl KW KV hK).mono ?_
           rintro e w' ⟨rfl, h⟩
           refine ⟨close 2 ?_ _ rfl, h⟩
           unfold kidsN
           rw [if_neg (by omega), if_neg (by omega), if_neg (by omega), if_pos (by omega)]
     · have E : sndE (.mk o v s kids) d l = (false, l - 1) := by
         rw [sndE, if_neg (fun h => c1 ⟨h.1, h.2.1⟩)]
       rw [E]
       exact rsnd_deep o _ _ _ _ _ _ _ _ _ d l (l - 1) w hwr (by omega)
set_option maxHeartbeats 4000000 in
theorem rsound_walk (o k n s m : Int) (q r : ByteArray) (A : Option Addr) (l c : Nat) (b : Bool) (z : Int) (w : World)
   (KS : Hid (∀ W, Below w.heap.size w W → Calls Tryz.prog 40 #[.agg #[.int .i64 o, .int .i64 k, .int .i64 n, .int .i64 s, .string q, .int .i64 m, .string r, .slice A l c], .int .i64 1, .int .i64 4096] W fun e w' => e = .returned (.tuple #[.int .i64 z, .bool b]) ∧ Below W.heap.size W w')) :
   Calls Tryz.prog 15 #[.agg #[.int .i64 o, .int .i64 k, .int .i64 n, .int .i64 s, .string q, .int .i64 m, .string r, .slice A l c]] w fun e w' => e = .returned (.bool b) ∧ Below w.heap.size w w' := by
 go_enter Tryz.func15, Tryz.ntmps15
 go_wp2_with fail
 refine (KS.out _ (by (repeat' first | (with_reducible first | exact .refl _ _ | assumption | apply balloc | apply Below.drew | apply bset | refine bstep ?_ ‹_› | refine bturn ?_ ‹_› ?_) | go_size))).mono ?_
 rintro e w1 ⟨rfl, hb⟩
 go_wp2_with fail
 go_returns
 exact ⟨rfl, by (repeat' first | (with_reducible first | exact .refl _ _ | assumption | apply balloc | apply Below.drew | apply bset | refine bstep ?_ ‹_› | refine bturn ?_ ‹_› ?_) | go_size)⟩
theorem rsoundx_any (x : Ex) (cs : Array Value) (w : World) (hx : XM (fun _ => True) w x cs) (hv : EV x) :
   Calls Tryz.prog 15 #[.agg cs] w fun e w' => e = .returned (.bool (soundX x)) ∧ Below w.heap.size w w' := by
 obtain ⟨A, c, hcs⟩ := hx.get
 subst hcs
 exact rsound_walk _ _ _ _ _ _ _ _ _ _ _ _ w (Lib.hid fun W hb => rsnd_all w x hv _ 1 4096 W hx hb (by decide) (by decide) (by decide))
end Go.Proofs.YtapilekangmcoaaGreatDoor
