/- What (scope).eval answers at every sound expression whose names are bound. -/
import Derived.Test.YtapilekangmcoaaGreatDoorA27
set_option linter.unusedVariables false
set_option linter.unusedSimpArgs false
set_option maxHeartbeats 8000000
set_option maxRecDepth 100000
namespace Go.Proofs.YtapilekangmcoaaGreatDoor
open Go.RowKit Go.Shelf
set_option maxHeartbeats 4000000 in
theorem evclo_walk (q r t : ByteArray) (k n s m : Int) (e : Bool) (he : (q.toList == r.toList) = e) (D : Nat) (w : World) (h : w.cell? ⟨D, 6, none⟩ = some (.string r)) :
   Calls Tryz.prog 57 #[.agg #[.string q, .int .i64 k, .int .i64 n, .int .i64 s, .string t, .int .i64 m], .pointer (some ⟨D, 0, none⟩)] w fun x w' => x = .returned (.bool e) ∧ Below w.heap.size w w' := by
 have hl := block_lt_of_cell h
 simp only at hl
 have hll := lts hl
 go_enter Tryz.func57, Tryz.ntmps57
 go_wp2_with fail
 go_returns
 exact ⟨by first | rfl | rw [he], by (repeat' first | (with_reducible first | exact .refl _ _ | assumption | apply balloc | apply Below.drew | apply bset | refine bstep ?_ ‹_› | refine bturn ?_ ‹_› ?_) | go_size)⟩
theorem cells2 (a b : Vl) : cellsV a ++ cellsV b = #[.int .i64 a.k, .int .i64 a.n, .int .i64 a.s, .string (bs a.t), .int .i64 a.m, .int .i64 b.k, .int .i64 b.n, .int .i64 b.s, .string (bs b.t), .int .i64 b.m] := by simp [cellsV]
theorem ev_bin (o : Int) (h4 : 4 ≤ o) (h15 : o ≤ 15) (vk vn vs vm : Int) (q r : ByteArray) (A : Option Addr) (N c : Nat) (g off : Nat) (kc : Nat) (koa kka kna ksa kma : Int) (kqa kra : ByteArray) (kBa : Option Addr) (kla kca : Nat) (kob kkb knb ksb kmb : Int) (kqb krb : ByteArray) (kBb : Option Addr) (klb kcb : Nat) (a b : Vl) (ha : VOk a) (hb : VOk b) (m : Int) (w : World) (hw : OKW m w) (hn : NU w) (ya0 : w.cell? ⟨g, off, none⟩ = some (.int .i64 koa)) (ya1 : w.cell? ⟨g, off + 1, none⟩ = some (.int .i64 kka)) (ya2 : w.cell? ⟨g, off + 2, none⟩ = some (.int .i64 kna)) (ya3 : w.cell? ⟨g, off + 3, none⟩ = some (.int .i64 ksa)) (ya4 : w.cell? ⟨g, off + 4, none⟩ = some (.string kqa)) (ya5 : w.cell? ⟨g, off + 5, none⟩ = some (.int .i64 kma)) (ya6 : w.cell? ⟨g, off + 6, none⟩ = some (.string kra)) (ya7 : w.cell? ⟨g, off + 7, none⟩ = some (.slice kBa kla kca)) (yb0 : w.cell? ⟨g, off + 8, none⟩ = some (.int .i64 kob)) (yb1 : w.cell? ⟨g, off + 8 + 1, none⟩ = some (.int .i64 kkb)) (yb2 : w.cell? ⟨g, off + 8 + 2, none⟩ = some (.int .i64 knb)) (yb3 : w.cell? ⟨g, off + 8 + 3, none⟩ = some (.int .i64 ksb)) (yb4 : w.cell? ⟨g, off + 8 + 4, none⟩ = some (.string kqb)) (yb5 : w.cell? ⟨g, off + 8 + 5, none⟩ = some (.int .i64 kmb)) (yb6 : w.cell? ⟨g, off + 8 + 6, none⟩ = some (.string krb)) (yb7 : w.cell? ⟨g, off + 8 + 7, none⟩ = some (.slice kBb klb kcb))
   (KEa : Hid (∀ W, Below w.heap.size w W → Calls Tryz.prog 34 #[.slice A N c, .agg #[.int .i64 koa, .int .i64 kka, .int .i64 kna, .int .i64 ksa, .string kqa, .int .i64 kma, .string kra, .slice kBa kla kca]] W fun e w' => e = .returned (.agg (cellsV a)) ∧ Below W.heap.size W w'))
   (KEb : Hid (∀ W, Below w.heap.size w W → Calls Tryz.prog 34 #[.slice A N c, .agg #[.int .i64 kob, .int .i64 kkb, .int .i64 knb, .int .i64 ksb, .string kqb, .int .i64 kmb, .string krb, .slice kBb klb kcb]] W fun e w' => e = .returned (.agg (cellsV b)) ∧ Below W.heap.size W w')) :
   Calls Tryz.prog 34 #[.slice A N c, .agg #[.int .i64 o, .int .i64 vk, .int .i64 vn, .int .i64 vs, .string q, .int .i64 vm, .string r, .slice (some ⟨g, off, none⟩) 2 kc]] w fun e w' => e = .returned (.agg (cellsV (binS o a b))) ∧ Below w.heap.size w w' := by
 exact ev_two o h4 h15 vk vn vs vm q r A N c g off kc koa kka kna ksa kma kqa kra kBa kla kca kob kkb knb ksb kmb kqb krb kBb klb kcb a b _ rfl w ya0 ya1 ya2 ya3 ya4 ya5 ya6 ya7 yb0 yb1 yb2 yb3 yb4 yb5 yb6 yb7 KEa KEb
   (Lib.hid fun W (h : Below w.heap.size w W) => equal_vl a b ha hb m W (hw.step h) (hn.step h))
   (Lib.hid fun W (h : Below w.heap.size w W) => less_vl a b ha hb m W (hw.step h) (hn.step h))
   (Lib.hid fun W (h : Below w.heap.size w W) => less_vl b a hb ha m W (hw.step h) (hn.step h))
   (Lib.hid fun v W (_ : Below w.heap.size w W) => not_vl v W)
   (Lib.hid fun G cc W _ hB => and_vl G cc _ a b W (by rw [cells2]; exact hB))
   (Lib.hid fun G cc W _ hB => or_vl G cc _ a b W (by rw [cells2]; exact hB))
   (Lib.hid fun W h => reckon_vl o a b ha hb W (hn.step h))
theorem eval_all (L : List (Bs × Vl)) (A : Option Addr) (c : Nat) (m : Int) (w0 : World) (hw : OKW m w0) (hn : NU w0) (hL : RM clB 6 w0 A L) (hlen : (L.length : Int) ≤ 9223372036854775807) (hs : ∀ b ∈ L, vSound b.2) {x : Ex} (hx : ES wordB x) :
   (∀ n ∈ nmsE x, boundB L n = true) → ∀ (cs : Array Value) (w : World), XM (fun _ => True) w0 x cs → Below w0.heap.size w0 w →
     Calls Tryz.prog 34 #[.slice A L.length c, .agg cs] w fun e w' => e = .returned (.agg (cellsV (evalE L x))) ∧ Below w.heap.size w w' := by
 induction hx with
 | val v hv h0 =>
   intro _ cs w hx hb
   have e : evalE L (.mk 1 v [] []) = v := by simp only [evalE, if_true]
   rw [e]
   obtain ⟨B, c', rfl, _⟩ := hx.kd
   exact ev_val v.k v.n v.s v.m (bs v.t) (bs []) A L.length c B 0 c' w
 | name s hsw =>
   intro hbd cs w hx hb
   obtain ⟨k, bd, h1, h2, h3⟩ := look_at (hbd s (by simp [nmsE, nmsL]))
   have e : evalE L (.mk 2 zeroV s []) = bd.2 := by simp only [evalE, show ¬ (2 : Int) = 1 by decide, if_false]; exact h3
   rw [e]
   obtain ⟨B, c', rfl, _⟩ := hx.kd
   obtain ⟨g, off, rfl, c0, c1, c2, c3, c4, c5⟩ := rmb_get hL h2
   refine ev_name 0 0 0 0 (bs []) (bs s) g off k L.length c (bs bd.1) bd.2.k bd.2.n bd.2.s bd.2.m (bs bd.2.t) B 0 c' (List.getElem?_eq_some_iff.1 h2).1 hlen w (keep1 hb c0) (keep1 hb c1) (keep1 hb c2) (keep1 hb c3) (keep1 hb c4) (keep1 hb c5) (Lib.hid fun D W hW hD => ?_)
   have hi := bidx_ev (fun b => b.1 == s) D (some ⟨g, off, none⟩) L c hlen W (hL.step (bstep hb hW)) (Lib.hid fun b _ W' hW' => evclo_walk (bs b.1) (bs s) (bs b.2.t) b.2.k b.2.n b.2.s b.2.m _ (by rw [bs_toList, bs_toList]) D W' (keep1 hW' hD))
   rw [h1] at hi
   exact hi
 | neg a ha ih =>
   intro hbd cs w hx hb
   have e : evalE L (.mk 3 zeroV [] [a]) = reckS 5 ⟨1, 0, 0, [], 0⟩ (evalE L a) := by simp only [evalE, if_true]
   rw [e]
   obtain ⟨B, c', rfl, hk⟩ := hx.kd
   obtain ⟨g, off, koa, kka, kna, ksa, kqa, kma, kra, kBa, kla, kca, rfl, hxa, ya0, ya1, ya2, ya3, ya4, ya5, ya6, ya7⟩ := hk.get 0 a rfl
   simp only [Nat.zero_mul, Nat.one_mul, Nat.add_zero, Nat.reduceMul] at ya0 ya1 ya2 ya3 ya4 ya5 ya6 ya7
   replace ya0 := keep1 hb ya0
   replace ya1 := keep1 hb ya1
   replace ya2 := keep1 hb ya2
   replace ya3 := keep1 hb ya3
   replace ya4 := keep1 hb ya4
   replace ya5 := keep1 hb ya5
   replace ya6 := keep1 hb ya6
   replace ya7 := keep1 hb ya7
   have hka := Lib.hid fun W (hW : Below w.heap.size w W) => ih (fun n hn => hbd n (by simp [nmsE, nmsL, hn])) _ W hxa (bstep hb hW)
   exact ev_neg 0 0 0 0 (bs []) (bs []) A L.length c g off c' koa kka kna ksa kma kqa kra kBa kla kca (evalE L a).k (evalE L a).n (evalE L a).s (evalE L a).m (bs (evalE L a).t) (reckS 5 ⟨1, 0, 0, [], 0⟩ (evalE L a)).k (reckS 5 ⟨1, 0, 0, [], 0⟩ (evalE L a)).n (reckS 5 ⟨1, 0, 0, [], 0⟩ (evalE L a)).s (reckS 5 ⟨1, 0, 0, [], 0⟩ (evalE L a)).m (bs (reckS 5 ⟨1, 0, 0, [], 0⟩ (evalE L a)).t) w ya0 ya1 ya2 ya3 ya4 ya5 ya6 ya7 hka (Lib.hid fun W h => reckon_vl 5 ⟨1, 0, 0, [], 0⟩ (evalE L a) ⟨ok0, ok0, ok0⟩ (vs_ok (eval_sound hs ha)) W (hn.step (bstep hb h)))
 | not a ha ih =>
   intro hbd cs w hx hb
   have e : evalE L (.mk 16 zeroV [] [a]) = notC (evalE L a) := by simp only [evalE, show ¬ (16 : Int) = 3 by decide, if_false]
   rw [e]
   obtain ⟨B, c', rfl, hk⟩ := hx.kd
   obtain ⟨g, off, koa, kka, kna, ksa, kqa, kma, kra, kBa, kla, kca, rfl, hxa, ya0, ya1, ya2, ya3, ya4, ya5, ya6, ya7⟩ := hk.get 0 a rfl
   simp only [Nat.zero_mul, Nat.one_mul, Nat.add_zero, Nat.reduceMul] at ya0 ya1 ya2 ya3 ya4 ya5 ya6 ya7
   replace ya0 := keep1 hb ya0
   replace ya1 := keep1 hb ya1
   replace ya2 := keep1 hb ya2
   replace ya3 := keep1 hb ya3
   replace ya4 := keep1 hb ya4
   replace ya5 := keep1 hb ya5
   replace ya6 := keep1 hb ya6
   replace ya7 := keep1 hb ya7
   have hka := Lib.hid fun W (hW : Below w.heap.size w W) => ih (fun n hn => hbd n (by simp [nmsE, nmsL, hn])) _ W hxa (bstep hb hW)
   exact ev_not 0 0 0 0 (bs []) (bs []) A L.length c g off c' koa kka kna ksa kma kqa kra kBa kla kca (evalE L a).k (evalE L a).n (evalE L a).s (evalE L a).m (bs (evalE L a).t) (notC (evalE L a)).k (notC (evalE L a)).n (notC (evalE L a)).s (notC (evalE L a)).m (bs (notC (evalE L a)).t) w ya0 ya1 ya2 ya3 ya4 ya5 ya6 ya7 hka (Lib.hid fun W _ => not_vl (evalE L a) W)
 | bin o a b h4 h15 ha hb' iha ihb =>
   intro hbd cs w hx hb
   have e : evalE L (.mk o zeroV [] [a, b]) = binS o (evalE L a) (evalE L b) := by simp only [evalE]
   rw [e]
   obtain ⟨B, c', rfl, hk⟩ := hx.kd
   obtain ⟨g, off, koa, kka, kna, ksa, kqa, kma, kra, kBa, kla, kca, rfl, hxa, ya0, ya1, ya2, ya3, ya4, ya5, ya6, ya7⟩ := hk.get 0 a rfl
   simp only [Nat.zero_mul, Nat.one_mul, Nat.add_zero, Nat.reduceMul] at ya0 ya1 ya2 ya3 ya4 ya5 ya6 ya7
   replace ya0 := keep1 hb ya0
   replace ya1 := keep1 hb ya1
   replace ya2 := keep1 hb ya2
   replace ya3 := keep1 hb ya3
   replace ya4 := keep1 hb ya4
   replace ya5 := keep1 hb ya5
   replace ya6 := keep1 hb ya6
   replace ya7 := keep1 hb ya7
   obtain ⟨g1, off1, kob, kkb, knb, ksb, kqb, kmb, krb, kBb, klb, kcb, eA1, hxb, yb0, yb1, yb2, yb3, yb4, yb5, yb6, yb7⟩ := hk.get 1 b rfl
   injection eA1 with eA1
   injection eA1 with f1 f2
   subst f1 f2
   simp only [Nat.zero_mul, Nat.one_mul, Nat.add_zero, Nat.reduceMul] at yb0 yb1 yb2 yb3 yb4 yb5 yb6 yb7
   replace yb0 := keep1 hb yb0
   replace yb1 := keep1 hb yb1
   replace yb2 := keep1 hb yb2
   replace yb3 := keep1 hb yb3
   replace yb4 := keep1 hb yb4
   replace yb5 := keep1 hb yb5
   replace yb6 := keep1 hb yb6
   replace yb7 := keep1 hb yb7
   have hka := Lib.hid fun W (hW : Below w.heap.size w W) => iha (fun n hn => hbd n (by simp [nmsE, nmsL, hn])) _ W hxa (bstep hb hW)
   have hkb := Lib.hid fun W (hW : Below w.heap.size w W) => ihb (fun n hn => hbd n (by simp [nmsE, nmsL, hn])) _ W hxb (bstep hb hW)
   exact ev_bin o h4 h15 0 0 0 0 (bs []) (bs []) A L.length c g off c' koa kka kna ksa kma kqa kra kBa kla kca kob kkb knb ksb kmb kqb krb kBb klb kcb (evalE L a) (evalE L b) (vs_ok (eval_sound hs ha)) (vs_ok (eval_sound hs hb')) m w (hw.step hb) (hn.step hb) ya0 ya1 ya2 ya3 ya4 ya5 ya6 ya7 yb0 yb1 yb2 yb3 yb4 yb5 yb6 yb7 hka hkb
 | ife a b d ha hb' hd iha ihb ihd =>
   intro hbd cs w hx hb
   have e : evalE L (.mk 17 zeroV [] [a, b, d]) = if vEq (evalE L a) (truV true) = true then evalE L b else evalE L d := by simp only [evalE]
   rw [e]
   obtain ⟨B, c', rfl, hk⟩ := hx.kd
   obtain ⟨g, off, koa, kka, kna, ksa, kqa, kma, kra, kBa, kla, kca, rfl, hxa, ya0, ya1, ya2, ya3, ya4, ya5, ya6, ya7⟩ := hk.get 0 a rfl
   simp only [Nat.zero_mul, Nat.one_mul, Nat.add_zero, Nat.reduceMul] at ya0 ya1 ya2 ya3 ya4 ya5 ya6 ya7
   replace ya0 := keep1 hb ya0
   replace ya1 := keep1 hb ya1
   replace ya2 := keep1 hb ya2
   replace ya3 := keep1 hb ya3
   replace ya4 := keep1 hb ya4
   replace ya5 := keep1 hb ya5
   replace ya6 := keep1 hb ya6
   replace ya7 := keep1 hb ya7
   obtain ⟨g1, off1, kob, kkb, knb, ksb, kqb, kmb, krb, kBb, klb, kcb, eA1, hxb, yb0, yb1, yb2, yb3, yb4, yb5, yb6, yb7⟩ := hk.get 1 b rfl
   injection eA1 with eA1
   injection eA1 with f1 f2
   subst f1 f2
   simp only [Nat.zero_mul, Nat.one_mul, Nat.add_zero, Nat.reduceMul] at yb0 yb1 yb2 yb3 yb4 yb5 yb6 yb7
   replace yb0 := keep1 hb yb0
   replace yb1 := keep1 hb yb1
   replace yb2 := keep1 hb yb2
   replace yb3 := keep1 hb yb3
   replace yb4 := keep1 hb yb4
   replace yb5 := keep1 hb yb5
   replace yb6 := keep1 hb yb6
   replace yb7 := keep1 hb yb7
   obtain ⟨g2, off2, kod, kkd, knd, ksd, kqd, kmd, krd, kBd, kld, kcd, eA2, hxd, yd0, yd1, yd2, yd3, yd4, yd5, yd6, yd7⟩ := hk.get 2 d rfl
   injection eA2 with eA2
   injection eA2 with f1 f2
   subst f1 f2
   simp only [Nat.zero_mul, Nat.one_mul, Nat.add_zero, Nat.reduceMul] at yd0 yd1 yd2 yd3 yd4 yd5 yd6 yd7
   replace yd0 := keep1 hb yd0
   replace yd1 := keep1 hb yd1
   replace yd2 := keep1 hb yd2
   replace yd3 := keep1 hb yd3
   replace yd4 := keep1 hb yd4
   replace yd5 := keep1 hb yd5
   replace yd6 := keep1 hb yd6
   replace yd7 := keep1 hb yd7
   have hka := Lib.hid fun W (hW : Below w.heap.size w W) => iha (fun n hn => hbd n (by simp [nmsE, nmsL, hn])) _ W hxa (bstep hb hW)
   have hkb := Lib.hid fun W (hW : Below w.heap.size w W) => ihb (fun n hn => hbd n (by simp [nmsE, nmsL, hn])) _ W hxb (bstep hb hW)
   have hkd := Lib.hid fun W (hW : Below w.heap.size w W) => ihd (fun n hn => hbd n (by simp [nmsE, nmsL, hn])) _ W hxd (bstep hb hW)
   have hI := fun W (_ : Below w.heap.size w W) => is_vl (evalE L a) W
   cases hv : vEq (evalE L a) (truV true) with
   | true =>
     rw [hv] at hI
     rw [if_pos rfl]
     exact ev_if_true 0 0 0 0 (bs []) (bs []) A L.length c g off c' koa kka kna ksa kma kqa kra kBa kla kca kob kkb knb ksb kmb kqb krb kBb klb kcb (evalE L a).k (evalE L a).n (evalE L a).s (evalE L a).m (bs (evalE L a).t) (evalE L b).k (evalE L b).n (evalE L b).s (evalE L b).m (bs (evalE L b).t) w ya0 ya1 ya2 ya3 ya4 ya5 ya6 ya7 yb0 yb1 yb2 yb3 yb4 yb5 yb6 yb7 hka (Lib.hid hI) hkb
   | false =>
     rw [hv] at hI
     rw [if_neg (by decide)]
     exact ev_if_false 0 0 0 0 (bs []) (bs []) A L.length c g off c' koa kka kna ksa kma kqa kra kBa kla kca kod kkd knd ksd kmd kqd krd kBd kld kcd (evalE L a).k (evalE L a).n (evalE L a).s (evalE L a).m (bs (evalE L a).t) (evalE L d).k (evalE L d).n (evalE L d).s (evalE L d).m (bs (evalE L d).t) w ya0 ya1 ya2 ya3 ya4 ya5 ya6 ya7 yd0 yd1 yd2 yd3 yd4 yd5 yd6 yd7 hka (Lib.hid hI) hkd
end Go.Proofs.YtapilekangmcoaaGreatDoor
