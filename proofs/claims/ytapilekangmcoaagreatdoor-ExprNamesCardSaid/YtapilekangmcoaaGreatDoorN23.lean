/- The walk of expr.Sound, for every expression. Reading an expression goes forward through the tokens: plainly. The walk of expr.Parser's Value. Printed by genval.py. The walk of expr.Parser's Value, in all its ways. The walks of expr's make and levels, and of what looks for an operator. How a call that reads an expression ends: what is asked of Expr, chain and prefix. The walk of expr.Parser's Expr. The walks of expr.Parser's prefix: nothing more, a minus, brackets, not. Printed by genpre.py. The walks of expr.Parser's prefix at a value. Printed by genpre.py. The walk of expr.Parser's prefix where nothing may stand. Printed by genpre.py. The walks through a whole expression: whether a name is in it, and whether it is great. The walks of the laws' big: whether an expression is great. Printed by genbig.py. The walk of the reference's Same of expressions (layer 8). What reckoning with values computes, plainly. No program in sight. -/
import Derived.Test.YtapilekangmcoaaGreatDoorN22
import Derived.Test.YtapilekangmcoaaGreatDoorN19
import Derived.Test.YtapilekangmcoaaGreatDoorN10
set_option linter.unusedVariables false
set_option linter.unusedSimpArgs false
set_option maxHeartbeats 8000000
set_option maxRecDepth 100000
namespace Go.Proofs.YtapilekangmcoaaGreatDoor
open Go.RowKit
/-- Its values' numbers are numbers of the machine. -/
inductive EV : Ex → Prop
 | mk (o : Int) (v : Vl) (s : Bs) (kids : List Ex) (hv : VOk v) (h : ∀ k ∈ kids, EV k) : EV (.mk o v s kids)
theorem bs_empty (s : Bs) : (bs s).toList.isEmpty = s.isEmpty := by rw [bs_toList]
theorem vlq_zero (v : Vl) : vlq v.k v.n v.s (bs v.t) v.m 0 0 0 ⟨#[]⟩ 0 = true ↔ v = zeroV := by
 rw [vlq_iff, bs_toList, show (⟨#[]⟩ : ByteArray).toList = [] from bs_toList []]
 obtain ⟨k, n, s, t, m⟩ := v
 simp [zeroV]
theorem zero_sound : vSound zeroV := .inl ⟨rfl, rfl, rfl, rfl, rfl⟩
open Classical in
theorem okB_eq (o : Int) (v : Vl) (s : Bs) : okB o (bs s).toList.isEmpty (wordB s) (vlq v.k v.n v.s (bs v.t) v.m 0 0 0 ⟨#[]⟩ 0) (decide (vSound v)) (decide (v.n < 0)) = okE o v s := by
 have main : okB o (bs s).toList.isEmpty (wordB s) (vlq v.k v.n v.s (bs v.t) v.m 0 0 0 ⟨#[]⟩ 0) (decide (vSound v)) (decide (v.n < 0)) = true ↔ okP o v s := by
   have hz : v = zeroV → vSound v ∧ ¬ v.n < 0 := fun h => by subst h; exact ⟨zero_sound, by decide⟩
   have hw : wordB s = true → s ≠ [] := fun h e => by
     obtain ⟨c, r, h2, _⟩ := word_parts h
     rw [e] at h2
     cases h2
   have he : (bs s).toList.isEmpty = true ↔ s = [] := by rw [bs_empty]; exact List.isEmpty_iff
   unfold okB okP
   by_cases h2 : o = 2
   · subst h2
     rw [if_pos rfl, if_pos rfl, if_neg (by decide)]
     simp only [Bool.and_eq_true, Bool.not_eq_true', decide_eq_true_eq, decide_eq_false_iff_not, vlq_zero, ← Bool.not_eq_true, he]
     exact ⟨fun h => ⟨h.1.1.1.2, h.1.1.2⟩, fun h => ⟨⟨⟨⟨hw h.1, h.1⟩, h.2⟩, (hz h.2).1⟩, (hz h.2).2⟩⟩
   · rw [if_neg h2, if_neg h2]
     by_cases h1 : o = 1
     · subst h1
       rw [if_pos rfl, if_pos rfl]
       simp only [Bool.and_eq_true, Bool.not_eq_true', decide_eq_true_eq, decide_eq_false_iff_not, he]
       exact ⟨fun h => ⟨h.1.1, h.1.2, by omega⟩, fun h => ⟨⟨h.1, h.2.1⟩, by omega⟩⟩
     · rw [if_neg h1, if_neg h1]
       simp only [Bool.and_eq_true, Bool.not_eq_true', decide_eq_true_eq, decide_eq_false_iff_not, vlq_zero, he]
       exact ⟨fun h => ⟨h.1.1.1, h.1.1.2⟩, fun h => ⟨⟨⟨h.1, h.2⟩, (hz h.2).1⟩, (hz h.2).2⟩⟩
 cases hb : okE o v s with
 | true => exact main.2 (okE_iff.1 hb)
 | false =>
   cases hc : okB o (bs s).toList.isEmpty (wordB s) (vlq v.k v.n v.s (bs v.t) v.m 0 0 0 ⟨#[]⟩ 0) (decide (vSound v)) (decide (v.n < 0)) with
   | false => rfl
   | true => rw [okE_iff.2 (main.1 hc)] at hb; cases hb
theorem snd_all (m : Int) (w0 : World) (hw : OKW m w0) : ∀ x, EV x → SndC w0 x := by
 intro x
 induction x using ex_ind with
 | h o v s kids ih =>
   intro hev cs d l lb w hx hs hd hl0 hl1
   obtain ⟨A, c, f, rfl, hn, hxk, hck⟩ := hx.inv
   cases hev with
   | mk _ _ _ _ hv hk =>
     have hwr : IntKind.i64.wrap (l - 1) = l - 1 := IntWalk.i64_in _ (by omega)
     have H := snd_node o v.k v.n v.s v.m (bs v.t) (bs s) A kids.length c d lb l (l - 1) (kidsN o) w0 w (sndL kids (d + 1) (l - 1)) _ _ _ _ _ hs hwr rfl hd rfl rfl rfl
       (Lib.hid fun W => word_any (bs s) s rfl (wordB s) rfl W)
       (Lib.hid fun W hb => vsd_any v hv m W (hw.step hb))
       (Lib.hid fun h1 h2 D P W hW hC => scont_walk A kids.length c D P lb (sndL kids (d + 1) (l - 1)) w0 W (Lib.hid fun W' e => by
         subst e
         exact sidx_walk kids A c D P lb (d + 1) d (by rw [IntWalk.i64_in _ (by omega)]; omega) (by omega) f w0 hn hxk hck (fun k hkm => ih k hkm (hk k hkm)) (l - 1) h2 (by omega) W' hW hC))
     rw [okB_eq] at H
     refine H.mono ?_
     rintro e w' ⟨rfl, h1, h2⟩
     have E : sndE (.mk o v s kids) d l = if ((decide (d ≤ 64) && (decide (0 ≤ l - 1) && decide ((kids.length : Int) = kidsN o))) && okE o v s) = true then sndL kids (d + 1) (l - 1) else (false, l - 1) := by
       rw [sndE]
       simp only [Bool.and_eq_true, decide_eq_true_eq, and_assoc]
     rw [E]
     by_cases hc : ((decide (d ≤ 64) && (decide (0 ≤ l - 1) && decide ((kids.length : Int) = kidsN o))) && okE o v s) = true
     · rw [if_pos hc] at h1 ⊢
       refine ⟨?_, h1, h2⟩
       rw [← Bool.and_assoc, hc, Bool.true_and]
     · rw [if_neg hc] at h1 ⊢
       refine ⟨?_, h1, h2⟩
       rw [← Bool.and_assoc, Bool.not_eq_true _ |>.mp hc, Bool.false_and]
set_option maxHeartbeats 4000000 in
theorem sound_walk (o k n s m : Int) (q r : ByteArray) (A : Option Addr) (l c : Nat) (b : Bool) (w : World)
   (KS : Hid (∀ W lb, SB w W lb 4096 → Calls Tryz.prog 52 #[.agg #[.int .i64 o, .int .i64 k, .int .i64 n, .int .i64 s, .string q, .int .i64 m, .string r, .slice A l c], .int .i64 1, .pointer (some ⟨lb, 0, none⟩)] W fun e w' => e = .returned (.bool b) ∧ Below w.heap.size w w')) :
   Calls Tryz.prog 29 #[.agg #[.int .i64 o, .int .i64 k, .int .i64 n, .int .i64 s, .string q, .int .i64 m, .string r, .slice A l c]] w fun e w' => e = .returned (.bool b) ∧ Below w.heap.size w w' := by
 go_enter Tryz.func29, Tryz.ntmps29
 go_wp2_with fail
 refine (KS.out _ _ ⟨by (repeat' first | (with_reducible first | exact .refl _ _ | assumption | apply balloc | apply Below.drew | apply bset | refine bstep ?_ ‹_› | refine bturn ?_ ‹_› ?_) | go_size), Blk.new' _ _ _ (by simp), by omega⟩).mono ?_
 rintro e w1 ⟨rfl, hb⟩
 go_wp2_with fail
 go_returns
 exact ⟨rfl, hb⟩
theorem sound_any' (x : Ex) (cs : Array Value) (m : Int) (w : World) (hw : OKW m w) (hx : XM (fun _ => True) w x cs) (hv : EV x) :
   Calls Tryz.prog 29 #[.agg cs] w fun e w' => e = .returned (.bool (soundX x)) ∧ Below w.heap.size w w' := by
 obtain ⟨A, c, hcs⟩ := hx.get
 subst hcs
 refine sound_walk _ _ _ _ _ _ _ _ _ _ _ w (Lib.hid fun W lb hs => ?_)
 refine (snd_all m w hw x hv _ 1 4096 lb W hx hs (by decide) (by decide) (by decide)).mono ?_
 rintro e w' ⟨rfl, h1, _⟩
 exact ⟨rfl, h1.bel⟩
end Go.Proofs.YtapilekangmcoaaGreatDoor
namespace Go.Proofs.YtapilekangmcoaaGreatDoor
open Go.RowKit
/-- The parser q goes through the tokens of p, behind it, and has made no less. -/
structure Fw (p q : PS) : Prop where
 L : q.L = p.L
 nx : p.nx ≤ q.nx
 md : p.md ≤ q.md
section
variable {p q r : PS} {W : Bs → Bool}
theorem Fw.refl (p : PS) : Fw p p := ⟨rfl, Nat.le_refl _, Int.le_refl _⟩
theorem Fw.trans (h : Fw p q) (k : Fw q r) : Fw p r := ⟨k.L.trans h.L, Nat.le_trans h.nx k.nx, Int.le_trans h.md k.md⟩
theorem fw_fail (p : PS) (k : Int) : Fw p (p.fail k) := by
 obtain ⟨h1, h2, h3, _⟩ := fail_p p k
 exact ⟨h3, Nat.le_of_eq h2.symm, Int.le_of_eq h1.symm⟩
theorem fw_adv (p : PS) : Fw p p.adv := ⟨rfl, Nat.le_succ _, Int.le_refl _⟩
theorem fw_need (p : PS) (s : Bs) : Fw p (p.need s) := by
 unfold PS.need
 split
 · exact fw_adv p
 · exact fw_fail p 5
theorem fw_made (p : PS) : Fw p p.made := ⟨made_L p, Nat.le_of_eq (made_nx p).symm, by rw [made_md]; omega⟩
theorem fw_deep (p : PS) (d : Nat) : Fw p (p.deep d) := by
 unfold PS.deep
 split
 · exact fw_fail p 9
 · exact Fw.refl p
theorem fw_all (W : Bs → Bool) : ∀ f,
   (∀ (p : PS) (d : Nat), Fw p (exprF W f p d).2) ∧
   (∀ (p : PS) (d n : Nat), Fw p (chainF W f p d n).2) ∧
   (∀ (x : Ex) (p : PS) (d n : Nat), Fw p (moreF W f x p d n).2) ∧
   (∀ (p : PS) (d : Nat), Fw p (prefixF W f p d).2)
 | 0 => by
   refine ⟨fun p d => ?_, fun p d n => ?_, fun x p d n => ?_, fun p d => ?_⟩
   · unfold exprF; exact Fw.refl p
   · unfold chainF; exact Fw.refl p
   · unfold moreF; exact Fw.refl p
   · unfold prefixF; exact Fw.refl p
 | f + 1 => by
   obtain ⟨hE, hC, hM, hP⟩ := fw_all W f
   refine ⟨fun p d => ?_, fun p d n => ?_, fun x p d n => ?_, fun p d => ?_⟩
   · unfold exprF
     split
     · exact ((((((fw_deep p d).trans (fw_adv _)).trans (hE _ d)).trans (fw_need _ bThen)).trans (hE _ d)).trans (fw_need _ bElse)).trans (hE _ d) |>.trans (fw_made _)
     · exact (fw_deep p d).trans (hC _ d 0)
   · unfold chainF
     split
     · exact hP p d
     · exact (hC p d (n + 1)).trans (hM _ _ d n)
   · unfold moreF
     split
     · split
       · exact Fw.refl p
       · dsimp only
         split
         · exact ((fw_adv p).trans (hC _ d (n + 1))).trans (fw_made _)
         · exact (((fw_adv p).trans (hC _ d (n + 1))).trans (fw_made _)).trans (hM _ _ d n)
     · exact Fw.refl p
   · unfold prefixF
     split
     · split
       · exact ((fw_adv p).trans (hP _ d)).trans (fw_made _)
       · split
         · exact ((fw_adv p).trans (hE _ (d + 1))).trans (fw_need _ [41])
         · split
           · exact ((((fw_adv p).trans (fw_need _ [40])).trans (hE _ (d + 1))).trans (fw_need _ [41])).trans (fw_made _)
           · split
             · exact (fw_adv p).trans (fw_made _)
             · split
               · exact fw_fail p 5
               · split
                 · exact (fw_made p).trans (fw_adv _)
                 · exact fw_fail p 5
     · exact Fw.refl p
/-- How a parser stands that makes expressions: no more made than taken (c fewer), k tokens left at most. -/
structure Rm (c : Int) (k : Nat) (p : PS) : Prop where
 lo : 0 ≤ p.md
 md : p.md + c ≤ p.nx
 le : p.nx ≤ p.L.length
 k : p.L.length - p.nx ≤ k
 big : p.L.length ≤ 100000
variable {c : Int} {k : Nat} {s : Bs}
theorem Rm.inv (h : Rm c k p) : Inv c p := ⟨h.md, h.le⟩
theorem Rm.of (h : Rm c k p) (hi : Inv c q) (hf : Fw p q) : Rm c k q := ⟨Int.le_trans h.lo hf.md, hi.md, hi.le, by have := hf.nx; have := h.k; rw [hf.L]; omega, by rw [hf.L]; exact h.big⟩
theorem Rm.fail (h : Rm c k p) (e : Int) : Rm c k (p.fail e) := h.of (h.inv.fail e) (fw_fail p e)
theorem Rm.need (h : Rm c k p) (s : Bs) : Rm c k (p.need s) := h.of (h.inv.need s).1 (fw_need p s)
theorem Rm.deep (h : Rm c k p) (d : Nat) : Rm c k (p.deep d) := h.of (h.inv.deep d).1 (fw_deep p d)
theorem Rm.made (h : Rm (c + 1) k p) : Rm c k p.made := ⟨by rw [made_md]; have := h.lo; omega, h.inv.made.md, h.inv.made.le, by rw [made_L, made_nx]; exact h.k, by rw [made_L]; exact h.big⟩
theorem Rm.less (h : Rm (c + 1) k p) : Rm c k p := ⟨h.lo, by have := h.md; omega, h.le, h.k, h.big⟩
theorem Rm.adv (h : Rm c k p) (hn : p.nx < p.L.length) : Rm (c + 1) (k - 1) p.adv := by
 have h1 := h.inv.adv hn
 exact ⟨h.lo, h1.md, h1.le, by have := h.k; show p.L.length - (p.nx + 1) ≤ k - 1; omega, h.big⟩
theorem Rm.pos (h : Rm c k p) (hn : p.nx < p.L.length) : 1 ≤ k := by have := h.k; omega
theorem Rm.expr (h : Rm c k p) (f d : Nat) : Rm c k (exprF W f p d).2 := h.of (((inv_all W f).1 p d c h.inv).1) ((fw_all W f).1 p d)
theorem Rm.chain (h : Rm c k p) (f d n : Nat) : Rm c k (chainF W f p d n).2 := h.of (((inv_all W f).2.1 p d n c h.inv).1) ((fw_all W f).2.1 p d n)
theorem Rm.prefix_ (h : Rm c k p) (f d : Nat) : Rm c k (prefixF W f p d).2 := h.of (((inv_all W f).2.2.2 p d c h.inv).1) ((fw_all W f).2.2.2 p d)
end
end Go.Proofs.YtapilekangmcoaaGreatDoor
namespace Go.Proofs.YtapilekangmcoaaGreatDoor
open Go.RowKit
theorem PB.turnF {w0 w w' : World} {b g : Nat} {A : Option Addr} {c : Nat} {p0 p : PS} (h0 : PB w0 b A c p0) (hL : p0.L = p.L) (h : PB w b A c p) (ht : Turned w w' g) (hg : w0.heap.size ≤ g) : PB w' b A c p := by
 refine ⟨h.blk.turn ht ?_, h.tm.gr ((Gr.refl g w).turn ht) ?_, h.nb, h.le, h.big⟩
 · have := h0.blk.lt; omega
 · intro i t g' o hi hA
   obtain ⟨g2, o2, e2, hc⟩ := h0.tm i t (by rw [hL]; exact hi)
   rw [hA] at e2
   injection e2 with e2
   injection e2 with e3 e4
   have := block_lt_of_cell (hc 0 _ rfl)
   simp only at this
   omega
/-- What Value comes to. -/
def ValOut (b : Nat) (A : Option Addr) (c : Nat) (p : PS) (w : World) : Option Vl → Ending → World → Prop
 | some v, e, w' => e = .returned (.tuple #[.agg (cellsV v), .bool true]) ∧ PB w' b A c p.adv ∧ Gr b w w'
 | none, e, w' => e = .returned (.tuple #[.agg (cellsV zeroV), .bool false]) ∧ PB w' b A c p ∧ Gr b w w'
set_option maxHeartbeats 16000000 in
theorem value_tok (b : Nat) (A : Option Addr) (c : Nat) (p : PS) (w : World) (h : PB w b A c p) (he : p.e = 0) (t : Tk) (ht : p.L[p.nx]? = some t)
   (T F N : Bool) (hT : p.isS trueB = T) (hF : p.isS falseB = F) (hN : p.isS nullB = N) (O : Option Vl)
   (hO : (if t.k = 1 then some (⟨1, t.n, t.s, [], 0⟩ : Vl) else if t.k = 2 then some ⟨2, 0, 0, t.t, 0⟩ else if t.k = 3 then some ⟨4, 0, 0, [], t.m⟩ else if T = true then some ⟨3, 0, 0, [], 1⟩ else if F = true then some ⟨3, 0, 0, [], 0⟩ else if N = true then some zeroV else none) = O) :
   Calls Tryz.prog 119 #[.pointer (some ⟨b, 0, none⟩)] w fun e w' => ValOut b A c p w O e w' := by
 have hn : p.nx < p.L.length := (List.getElem?_eq_some_iff.1 ht).1
 have hni : ¬ (p.L.length : Int) ≤ (p.nx : Int) := by omega
 have hni2 : (p.nx : Int) < (p.L.length : Int) := by omega
 have hnx : IntKind.i64.wrap ((p.nx : Int) + 1) = (p.nx : Int) + 1 := IntWalk.i64_in _ (by have := h.big; omega)
 have H := Lib.hid h
 have HT := Lib.hid ht
 have HE := Lib.hid he
 have HL := Lib.hid hn
 have K1 := Lib.hid (is_any b A c p trueB)
 have K2 := Lib.hid (is_any b A c p falseB)
 have K3 := Lib.hid (is_any b A c p nullB)
 rw [hT] at K1
 rw [hF] at K2
 rw [hN] at K3
 have HO := Lib.hid hO
 obtain ⟨tk, ta, tt, tn, ts, tmm⟩ := t
 have hbp := (h).blk; obtain ⟨hlp, hllp, qp0, qp1, qp2, qp3, qp4, qp5, zp0, zp1, zp2, zp3, zp4, zp5⟩ := bf6 hbp; (try simp at qp0 qp1 qp2 qp3 qp4 qp5); have Hhbp := Lib.hid hbp; clear hbp
 rw [he] at qp4
 clear h ht he hn hT hF hN hO
 go_enter Tryz.func119, Tryz.ntmps119
 go_wp2_with fail
 go_quiet (fail)
 have k1 : Blk ((w.alloc (.cells #[.int .i64 0, .int .i64 0, .int .i64 0, .string ⟨#[]⟩, .int .i64 0] 25)).drewN nq) w.heap.size 25 #[.int .i64 0, .int .i64 0, .int .i64 0, .string ⟨#[]⟩, .int .i64 0] := (Blk.new _ _ _).drewN nq
 have hb1 : Below w.heap.size w ((w.alloc (.cells #[.int .i64 0, .int .i64 0, .int .i64 0, .string ⟨#[]⟩, .int .i64 0] 25)).drewN nq) := by (repeat' first | (with_reducible first | apply bdrewN | exact .refl _ _ | assumption | apply balloc | apply Below.drew | apply bset | refine bstep ?_ ‹_› | refine bturn ?_ ‹_› ?_) | go_size)
 generalize (w.alloc (.cells #[.int .i64 0, .int .i64 0, .int .i64 0, .string ⟨#[]⟩, .int .i64 0] 25)).drewN nq = w1 at *
 clear qp0 zp0 qp1 zp1 qp2 zp2 qp3 zp3 qp4 zp4 qp5 zp5 hlp hllp Hhbp
 have h1 := H.out.step hb1
 obtain ⟨g, f, rfl, c0, c1, c2, c3, c4, c5⟩ := tm_get h1.tm HT.out
 simp only at c0 c1 c2 c3 c4 c5
 have hlg : g < w1.heap.size := block_lt_of_cell c0
 have hllg := lts hlg
 have hlb := k1.lt
 have hllb := lts hlb
 obtain ⟨q, hq⟩ : ∃ q, bs tt = q := ⟨_, rfl⟩
 rw [hq] at c2
 have hbr := (h1).blk; obtain ⟨hlr, hllr, qr0, qr1, qr2, qr3, qr4, qr5, zr0, zr1, zr2, zr3, zr4, zr5⟩ := bf6 hbr; (try simp at qr0 qr1 qr2 qr3 qr4 qr5); have Hhbr := Lib.hid hbr; clear hbr
 rw [HE.out] at qr4
 have H1 := Lib.hid h1
 clear h1
 go_wp2_with fail
 go_region
 all_goals
   have k2 : Blk ((w1.alloc (.cells #[.int .i64 tk, .int .i64 (ta : Int), .string q, .int .i64 tn, .int .i64 ts, .int .i64 tmm] 101)).drew) w1.heap.size 101 #[.int .i64 tk, .int .i64 (ta : Int), .string q, .int .i64 tn, .int .i64 ts, .int .i64 tmm] := (Blk.new _ _ _).drew
   have k1' : Blk ((w1.alloc (.cells #[.int .i64 tk, .int .i64 (ta : Int), .string q, .int .i64 tn, .int .i64 ts, .int .i64 tmm] 101)).drew) w.heap.size 25 #[.int .i64 0, .int .i64 0, .int .i64 0, .string ⟨#[]⟩, .int .i64 0] := (k1.alloc _).drew
   have hb2 : Below w1.heap.size w1 ((w1.alloc (.cells #[.int .i64 tk, .int .i64 (ta : Int), .string q, .int .i64 tn, .int .i64 ts, .int .i64 tmm] 101)).drew) := by (repeat' first | (with_reducible first | exact .refl _ _ | assumption | apply balloc | apply Below.drew | apply bset | refine bstep ?_ ‹_› | refine bturn ?_ ‹_› ?_) | go_size)
   generalize (w1.alloc (.cells #[.int .i64 tk, .int .i64 (ta : Int), .string q, .int .i64 tn, .int .i64 ts, .int .i64 tmm] 101)).drew = w2 at *
   clear c0 c1 c2 c3 c4 c5 hllg hlg hlb hllb
   clear qr0 zr0 qr1 zr1 qr2 zr2 qr3 zr3 qr4 zr4 qr5 zr5 hlr hllr Hhbr
   have h2 := H1.out.step hb2
   have hb3 : Below w.heap.size w w2 := bstep hb1 hb2
   have hz1 := hb1.size
   have hz2 := hb2.size
   have hlk := k2.lt
   have hlj := k1'.lt
   have H2 := Lib.hid h2
   have hlb := h2.blk.lt
   have hlw := H.out.blk.lt
   have HQ := Lib.hid hq
   have k3 : Blk (w2.alloc (.cells #[.int .i64 0, .int .i64 0, .int .i64 0, .string ⟨#[]⟩, .int .i64 0] 25)) w2.heap.size 25 #[.int .i64 0, .int .i64 0, .int .i64 0, .string ⟨#[]⟩, .int .i64 0] := Blk.new _ _ _
   have HK1 := Lib.hid k1'
   go_upto_region 5 with (refine wpList_store_blk k3 rfl _ _ _ (by rfl) _ (by rfl) (by rfl) (by repeat first | with_reducible first | exact k3 | apply Blk.alloc | apply Blk.drew | refine Blk.far ?_ (by simp <;> omega) _ | refine Blk.turn ?_ ‹_› (by omega)) (by rfl) (by kernel_rfl) (by simp [Value.oneCell']) ?_; intro wt k3n ht)
   have hb4 : Below w2.heap.size w2 wt := bturn (balloc (Below.refl _ _) _) ht (Nat.le_refl _)
   have k2t := k2.step hb4
   have h4 := h2.step hb4
   have G0 := Lib.hid h4
   have hs4 : w2.heap.size < wt.heap.size := k3n.lt
   clear k2 k1' h2 k3 hlk hlj
   by_cases e1 : tk = 1
   · subst e1
     obtain ⟨hlt, hllt, qt0, qt1, qt2, qt3, qt4, qt5, zt0, zt1, zt2, zt3, zt4, zt5⟩ := bf6 k2t; (try simp at qt0 qt1 qt2 qt3 qt4 qt5); have Hk2t := Lib.hid k2t; clear k2t
     clear h4
     go_upto_region 17 with (refine wpList_store_blk k3n rfl _ _ _ (by rfl) _ (by rfl) (by rfl) (by repeat first | with_reducible first | exact k3n | apply Blk.alloc | apply Blk.drew | refine Blk.far ?_ (by simp <;> omega) _ | refine Blk.turn ?_ ‹_› (by omega)) (by rfl) (by kernel_rfl) (by simp [Value.oneCell']) ?_; intro wt k3nn ht)
     have hbv : Below w2.heap.size w2 wt := bturn hb4 ht (Nat.le_refl _)
     have h5 := H2.out.step hbv
     have H5 := Lib.hid h5
     have k1v := HK1.out.step hbv
     have hsv : w2.heap.size < wt.heap.size := (k3nn).lt
     have hbs := (h5).blk; obtain ⟨hls, hlls, qs0, qs1, qs2, qs3, qs4, qs5, zs0, zs1, zs2, zs3, zs4, zs5⟩ := bf6 hbs; (try simp at qs0 qs1 qs2 qs3 qs4 qs5); have Hhbs := Lib.hid hbs; clear hbs
     clear h5
     go_wp2_with (first | (refine wpList_load_blk k3nn rfl _ _ (by rfl) (by rfl) (by (repeat first | with_reducible first | exact k3nn | apply Blk.alloc | apply Blk.drew | refine Blk.far ?_ (by simp <;> omega) _ | refine Blk.turn ?_ ‹_› (by omega))) _ Tryz.underlying25 rfl (by kernel_rfl) ?_) | (refine wpList_store_blk k1v rfl _ _ _ (by rfl) _ (by rfl) (by rfl) (by repeat first | with_reducible first | exact k1v | apply Blk.alloc | apply Blk.drew | refine Blk.far ?_ (by simp <;> omega) _ | refine Blk.turn ?_ ‹_› (by omega)) (by rfl) (by kernel_rfl) (by simp [Value.oneCell']) ?_; intro wt k1vn ht))
     refine ret_blk2 rfl k1vn rfl Tryz.underlying25 rfl (by kernel_rfl) rfl ?_
     obtain rfl : (some ⟨1, tn, ts, [], 0⟩ : Option Vl) = O := HO.out
     exact ⟨by rfl, H.out.turnF rfl (H5.out.adv HL.out) ht (Nat.le_refl _), Gr.turnFar ((Gr.of (bstep hb3 hbv)).set 1 _) ht (Nat.le_refl _)⟩
   · by_cases e2 : tk = 2
     · subst e2
       obtain ⟨hlt, hllt, qt0, qt1, qt2, qt3, qt4, qt5, zt0, zt1, zt2, zt3, zt4, zt5⟩ := bf6 k2t; (try simp at qt0 qt1 qt2 qt3 qt4 qt5); have Hk2t := Lib.hid k2t; clear k2t
       clear h4
       go_upto_region 17 with (refine wpList_store_blk k3n rfl _ _ _ (by rfl) _ (by rfl) (by rfl) (by repeat first | with_reducible first | exact k3n | apply Blk.alloc | apply Blk.drew | refine Blk.far ?_ (by simp <;> omega) _ | refine Blk.turn ?_ ‹_› (by omega)) (by rfl) (by kernel_rfl) (by simp [Value.oneCell']) ?_; intro wt k3nn ht)
       have hbv : Below w2.heap.size w2 wt := bturn hb4 ht (Nat.le_refl _)
       have h5 := H2.out.step hbv
       have H5 := Lib.hid h5
       have k1v := HK1.out.step hbv
       have hsv : w2.heap.size < wt.heap.size := (k3nn).lt
       have hbs := (h5).blk; obtain ⟨hls, hlls, qs0, qs1, qs2, qs3, qs4, qs5, zs0, zs1, zs2, zs3, zs4, zs5⟩ := bf6 hbs; (try simp at qs0 qs1 qs2 qs3 qs4 qs5); have Hhbs := Lib.hid hbs; clear hbs
       clear h5
       go_wp2_with (first | (refine wpList_load_blk k3nn rfl _ _ (by rfl) (by rfl) (by (repeat first | with_reducible first | exact k3nn | apply Blk.alloc | apply Blk.drew | refine Blk.far ?_ (by simp <;> omega) _ | refine Blk.turn ?_ ‹_› (by omega))) _ Tryz.underlying25 rfl (by kernel_rfl) ?_) | (refine wpList_store_blk k1v rfl _ _ _ (by rfl) _ (by rfl) (by rfl) (by repeat first | with_reducible first | exact k1v | apply Blk.alloc | apply Blk.drew | refine Blk.far ?_ (by simp <;> omega) _ | refine Blk.turn ?_ ‹_› (by omega)) (by rfl) (by kernel_rfl) (by simp [Value.oneCell']) ?_; intro wt k1vn ht))
       refine ret_blk2 rfl k1vn rfl Tryz.underlying25 rfl (by kernel_rfl) rfl ?_
       obtain rfl : (some ⟨2, 0, 0, tt, 0⟩ : Option Vl) = O := by have h := HO.out; rw [if_neg e1] at h; exact h
       exact ⟨by subst hq; rfl, H.out.turnF rfl (H5.out.adv HL.out) ht (Nat.le_refl _), Gr.turnFar ((Gr.of (bstep hb3 hbv)).set 1 _) ht (Nat.le_refl _)⟩
     · by_cases e3 : tk = 3
       · subst e3
         obtain ⟨hlt, hllt, qt0, qt1, qt2, qt3, qt4, qt5, zt0, zt1, zt2, zt3, zt4, zt5⟩ := bf6 k2t; (try simp at qt0 qt1 qt2 qt3 qt4 qt5); have Hk2t := Lib.hid k2t; clear k2t
         clear h4
         go_upto_region 17 with (refine wpList_store_blk k3n rfl _ _ _ (by rfl) _ (by rfl) (by rfl) (by repeat first | with_reducible first | exact k3n | apply Blk.alloc | apply Blk.drew | refine Blk.far ?_ (by simp <;> omega) _ | refine Blk.turn ?_ ‹_› (by omega)) (by rfl) (by kernel_rfl) (by simp [Value.oneCell']) ?_; intro wt k3nn ht)
         have hbv : Below w2.heap.size w2 wt := bturn hb4 ht (Nat.le_refl _)
         have h5 := H2.out.step hbv
         have H5 := Lib.hid h5
         have k1v := HK1.out.step hbv
         have hsv : w2.heap.size < wt.heap.size := (k3nn).lt
         have hbs := (h5).blk; obtain ⟨hls, hlls, qs0, qs1, qs2, qs3, qs4, qs5, zs0, zs1, zs2, zs3, zs4, zs5⟩ := bf6 hbs; (try simp at qs0 qs1 qs2 qs3 qs4 qs5); have Hhbs := Lib.hid hbs; clear hbs
         clear h5
         go_wp2_with (first | (refine wpList_load_blk k3nn rfl _ _ (by rfl) (by rfl) (by (repeat first | with_reducible first | exact k3nn | apply Blk.alloc | apply Blk.drew | refine Blk.far ?_ (by simp <;> omega) _ | refine Blk.turn ?_ ‹_› (by omega))) _ Tryz.underlying25 rfl (by kernel_rfl) ?_) | (refine wpList_store_blk k1v rfl _ _ _ (by rfl) _ (by rfl) (by rfl) (by repeat first | with_reducible first | exact k1v | apply Blk.alloc | apply Blk.drew | refine Blk.far ?_ (by simp <;> omega) _ | refine Blk.turn ?_ ‹_› (by omega)) (by rfl) (by kernel_rfl) (by simp [Value.oneCell']) ?_; intro wt k1vn ht))
         refine ret_blk2 rfl k1vn rfl Tryz.underlying25 rfl (by kernel_rfl) rfl ?_
         obtain rfl : (some ⟨4, 0, 0, [], tmm⟩ : Option Vl) = O := by have h := HO.out; rw [if_neg e1, if_neg e2] at h; exact h
         exact ⟨by rfl, H.out.turnF rfl (H5.out.adv HL.out) ht (Nat.le_refl _), Gr.turnFar ((Gr.of (bstep hb3 hbv)).set 1 _) ht (Nat.le_refl _)⟩
       · have HO : Hid ((if T = true then some (⟨3, 0, 0, [], 1⟩ : Vl) else if F = true then some ⟨3, 0, 0, [], 0⟩ else if N = true then some zeroV else none) = O) := Lib.hid (by have h := HO.out; rw [if_neg e1, if_neg e2, if_neg e3] at h; exact h)
         obtain ⟨hlt, hllt, qt0, qt1, qt2, qt3, qt4, qt5, zt0, zt1, zt2, zt3, zt4, zt5⟩ := bf6 k2t; (try simp at qt0 qt1 qt2 qt3 qt4 qt5); have Hk2t := Lib.hid k2t; clear k2t
         clear h4
         go_upto_region 11 with fail
         go_wp2_with fail
         refine (K1.out _ G0.out).mono ?_
         rintro e v0 ⟨rfl, hc0⟩
         have d0 : Below w2.heap.size w2 v0 := bstep hb4 hc0
         have k3v0 := k3n.step hc0
         have hsv0 : w2.heap.size < v0.heap.size := k3v0.lt
         have G1 := Lib.hid (G0.out.step hc0)
         cases T with
         | true =>
           go_upto_region 17 with (refine wpList_store_blk k3v0 rfl _ _ _ (by rfl) _ (by rfl) (by rfl) (by repeat first | with_reducible first | exact k3v0 | apply Blk.alloc | apply Blk.drew | refine Blk.far ?_ (by simp <;> omega) _ | refine Blk.turn ?_ ‹_› (by omega)) (by rfl) (by kernel_rfl) (by simp [Value.oneCell']) ?_; intro wt k3v0n ht)
           have hbv : Below w2.heap.size w2 wt := bturn d0 ht (Nat.le_refl _)
           have h5 := H2.out.step hbv
           have H5 := Lib.hid h5
           have k1v := HK1.out.step hbv
           have hsv : w2.heap.size < wt.heap.size := (k3v0n).lt
           have hbs := (h5).blk; obtain ⟨hls, hlls, qs0, qs1, qs2, qs3, qs4, qs5, zs0, zs1, zs2, zs3, zs4, zs5⟩ := bf6 hbs; (try simp at qs0 qs1 qs2 qs3 qs4 qs5); have Hhbs := Lib.hid hbs; clear hbs
           clear h5
           go_wp2_with (first | (refine wpList_load_blk k3v0n rfl _ _ (by rfl) (by rfl) (by (repeat first | with_reducible first | exact k3v0n | apply Blk.alloc | apply Blk.drew | refine Blk.far ?_ (by simp <;> omega) _ | refine Blk.turn ?_ ‹_› (by omega))) _ Tryz.underlying25 rfl (by kernel_rfl) ?_) | (refine wpList_store_blk k1v rfl _ _ _ (by rfl) _ (by rfl) (by rfl) (by repeat first | with_reducible first | exact k1v | apply Blk.alloc | apply Blk.drew | refine Blk.far ?_ (by simp <;> omega) _ | refine Blk.turn ?_ ‹_› (by omega)) (by rfl) (by kernel_rfl) (by simp [Value.oneCell']) ?_; intro wt k1vn ht))
           refine ret_blk2 rfl k1vn rfl Tryz.underlying25 rfl (by kernel_rfl) rfl ?_
           obtain rfl : (some ⟨3, 0, 0, [], 1⟩ : Option Vl) = O := HO.out
           exact ⟨by rfl, H.out.turnF rfl (H5.out.adv HL.out) ht (Nat.le_refl _), Gr.turnFar ((Gr.of (bstep hb3 hbv)).set 1 _) ht (Nat.le_refl _)⟩
         | false =>
           go_wp2_with fail
           refine (K2.out _ G1.out).mono ?_
           rintro e v1 ⟨rfl, hc1⟩
           have d1 : Below w2.heap.size w2 v1 := bstep d0 hc1
           have k3v1 := k3v0.step hc1
           have hsv1 : w2.heap.size < v1.heap.size := k3v1.lt
           have G2 := Lib.hid (G1.out.step hc1)
           cases F with
           | true =>
             go_upto_region 17 with (refine wpList_store_blk k3v1 rfl _ _ _ (by rfl) _ (by rfl) (by rfl) (by repeat first | with_reducible first | exact k3v1 | apply Blk.alloc | apply Blk.drew | refine Blk.far ?_ (by simp <;> omega) _ | refine Blk.turn ?_ ‹_› (by omega)) (by rfl) (by kernel_rfl) (by simp [Value.oneCell']) ?_; intro wt k3v1n ht)
             have hbv : Below w2.heap.size w2 wt := bturn d1 ht (Nat.le_refl _)
             have h5 := H2.out.step hbv
             have H5 := Lib.hid h5
             have k1v := HK1.out.step hbv
             have hsv : w2.heap.size < wt.heap.size := (k3v1n).lt
             have hbs := (h5).blk; obtain ⟨hls, hlls, qs0, qs1, qs2, qs3, qs4, qs5, zs0, zs1, zs2, zs3, zs4, zs5⟩ := bf6 hbs; (try simp at qs0 qs1 qs2 qs3 qs4 qs5); have Hhbs := Lib.hid hbs; clear hbs
             clear h5
             go_wp2_with (first | (refine wpList_load_blk k3v1n rfl _ _ (by rfl) (by rfl) (by (repeat first | with_reducible first | exact k3v1n | apply Blk.alloc | apply Blk.drew | refine Blk.far ?_ (by simp <;> omega) _ | refine Blk.turn ?_ ‹_› (by omega))) _ Tryz.underlying25 rfl (by kernel_rfl) ?_) | (refine wpList_store_blk k1v rfl _ _ _ (by rfl) _ (by rfl) (by rfl) (by repeat first | with_reducible first | exact k1v | apply Blk.alloc | apply Blk.drew | refine Blk.far ?_ (by simp <;> omega) _ | refine Blk.turn ?_ ‹_› (by omega)) (by rfl) (by kernel_rfl) (by simp [Value.oneCell']) ?_; intro wt k1vn ht))
             refine ret_blk2 rfl k1vn rfl Tryz.underlying25 rfl (by kernel_rfl) rfl ?_
             obtain rfl : (some ⟨3, 0, 0, [], 0⟩ : Option Vl) = O := HO.out
             exact ⟨by rfl, H.out.turnF rfl (H5.out.adv HL.out) ht (Nat.le_refl _), Gr.turnFar ((Gr.of (bstep hb3 hbv)).set 1 _) ht (Nat.le_refl _)⟩
           | false =>
             go_wp2_with fail
             refine (K3.out _ G2.out).mono ?_
             rintro e v2 ⟨rfl, hc2⟩
             have d2 : Below w2.heap.size w2 v2 := bstep d1 hc2
             have k3v2 := k3v1.step hc2
             have hsv2 : w2.heap.size < v2.heap.size := k3v2.lt
             have G3 := Lib.hid (G2.out.step hc2)
             cases N with
             | true =>
               go_upto_region 17 with fail
               have h5 := G3.out
               have k1v := HK1.out.step d2
               have hbs := (h5).blk; obtain ⟨hls, hlls, qs0, qs1, qs2, qs3, qs4, qs5, zs0, zs1, zs2, zs3, zs4, zs5⟩ := bf6 hbs; (try simp at qs0 qs1 qs2 qs3 qs4 qs5); have Hhbs := Lib.hid hbs; clear hbs
               clear h5
               go_wp2_with (first | (refine wpList_load_blk k3v2 rfl _ _ (by rfl) (by rfl) (by (repeat first | with_reducible first | exact k3v2 | apply Blk.alloc | apply Blk.drew | refine Blk.far ?_ (by simp <;> omega) _ | refine Blk.turn ?_ ‹_› (by omega))) _ Tryz.underlying25 rfl (by kernel_rfl) ?_) | (refine wpList_store_blk k1v rfl _ _ _ (by rfl) _ (by rfl) (by rfl) (by repeat first | with_reducible first | exact k1v | apply Blk.alloc | apply Blk.drew | refine Blk.far ?_ (by simp <;> omega) _ | refine Blk.turn ?_ ‹_› (by omega)) (by rfl) (by kernel_rfl) (by simp [Value.oneCell']) ?_; intro wt k1vn ht))
               refine ret_blk2 rfl k1vn rfl Tryz.underlying25 rfl (by kernel_rfl) rfl ?_
               obtain rfl : (some zeroV : Option Vl) = O := HO.out
               exact ⟨rfl, H.out.turnF rfl (G3.out.adv HL.out) ht (Nat.le_refl _), Gr.turnFar ((Gr.of (bstep hb3 d2)).set 1 _) ht (Nat.le_refl _)⟩
             | false =>
               have k1v := HK1.out.step d2
               go_wp2_with (first | (refine wpList_load_blk k3v2 rfl _ _ (by rfl) (by rfl) (by (repeat first | with_reducible first | exact k3v2 | apply Blk.alloc | apply Blk.drew | refine Blk.far ?_ (by simp <;> omega) _ | refine Blk.turn ?_ ‹_› (by omega))) _ Tryz.underlying25 rfl (by kernel_rfl) ?_) | (refine wpList_store_blk k1v rfl _ _ _ (by rfl) _ (by rfl) (by rfl) (by repeat first | with_reducible first | exact k1v | apply Blk.alloc | apply Blk.drew | refine Blk.far ?_ (by simp <;> omega) _ | refine Blk.turn ?_ ‹_› (by omega)) (by rfl) (by kernel_rfl) (by simp [Value.oneCell']) ?_; intro wt k1vn ht))
               refine ret_blk2 rfl k1vn rfl Tryz.underlying25 rfl (by kernel_rfl) rfl ?_
               obtain rfl : (none : Option Vl) = O := HO.out
               exact ⟨rfl, H.out.turnF rfl G3.out ht (Nat.le_refl _), Gr.turnFar (Gr.of (bstep hb3 d2)) ht (Nat.le_refl _)⟩
end Go.Proofs.YtapilekangmcoaaGreatDoor
namespace Go.Proofs.YtapilekangmcoaaGreatDoor
open Go.RowKit
theorem isS_iff {p : PS} {t : Tk} (he : p.e = 0) (ht : p.L[p.nx]? = some t) (s : Bs) : p.isS s = true ↔ (t.k = 4 ∨ t.k = 5) ∧ t.t = s := by
 rw [isS_some he ht]
 simp
theorem value_any (b : Nat) (A : Option Addr) (c : Nat) (p : PS) (w : World) (h : PB w b A c p) :
   Calls Tryz.prog 119 #[.pointer (some ⟨b, 0, none⟩)] w fun e w' => ValOut b A c p w p.val e w' := by
 by_cases he : p.e = 0
 · cases ht : p.L[p.nx]? with
   | none =>
     have hv : p.val = none := by unfold PS.val; rw [if_pos he, ht]
     rw [hv]
     refine (value_none b A c p w h (.inr (List.getElem?_eq_none_iff.1 ht))).mono ?_
     rintro e w' ⟨rfl, hb⟩
     exact ⟨rfl, h.step hb, .of hb⟩
   | some t =>
     have hv : p.val = valT t := by unfold PS.val; rw [if_pos he, ht]
     rw [hv]
     refine value_tok b A c p w h he t ht _ _ _ rfl rfl rfl _ ?_
     unfold valT
     simp only [isS_iff he ht]
 · have hv : p.val = none := by unfold PS.val; rw [if_neg he]
   rw [hv]
   refine (value_none b A c p w h (.inl he)).mono ?_
   rintro e w' ⟨rfl, hb⟩
   exact ⟨rfl, h.step hb, .of hb⟩
theorem fail_L (p : PS) (k : Int) : (p.fail k).L = p.L := by unfold PS.fail; split <;> rfl
theorem need_L (p : PS) (s : Bs) : (p.need s).L = p.L := by unfold PS.need; split <;> first | rfl | exact fail_L _ _
theorem take_no {p : PS} {s : Bs} (h : p.isS s = false) : p.take s = p := by unfold PS.take; rw [h]; rfl
theorem take_yes {p : PS} {s : Bs} (h : p.isS s = true) : p.take s = p.adv := by unfold PS.take; rw [h]; rfl
end Go.Proofs.YtapilekangmcoaaGreatDoor
namespace Go.Proofs.YtapilekangmcoaaGreatDoor
open Go.RowKit
theorem PB.md {w : World} {b : Nat} {A : Option Addr} {c : Nat} {p : PS} (h : PB w b A c p) (z : Int) : PB (w.setCell ⟨b, 5, none⟩ (.int .i64 z)) b A c { p with md := z } := by
 refine ⟨?_, h.tm.gr (b := b) ((Gr.refl _ _).set _ _) h.nb, h.nb, h.le, h.big⟩
 have := h.blk.set_ 5 (.int .i64 z)
 simpa using this
set_option maxHeartbeats 4000000 in
theorem emake_any (b : Nat) (A : Option Addr) (c : Nat) (p : PS) (o : Int) (B : Option Addr) (n cp : Nat) (w : World) (h : PB w b A c p) (h0 : 0 ≤ p.md) (h1 : p.md ≤ 200000) :
   Calls Tryz.prog 50 #[.pointer (some ⟨b, 0, none⟩), .int .i64 o, .slice B n cp] w fun e w' => e = .returned (.agg #[.int .i64 o, .int .i64 0, .int .i64 0, .int .i64 0, .string ⟨#[]⟩, .int .i64 0, .string ⟨#[]⟩, .slice B n cp]) ∧ PB w' b A c p.made ∧ Gr b w w' := by
 have hlw := h.blk.lt
 have hnx : IntKind.i64.wrap (p.md + 1) = p.md + 1 := IntWalk.i64_in _ (by omega)
 have H3 : Hid (PB ((w.setCell ⟨b, 5, none⟩ (.int .i64 (p.md + 1))).alloc (.cells #[.int .i64 0, .int .i64 0, .int .i64 0, .int .i64 0, .string ⟨#[]⟩, .int .i64 0, .string ⟨#[]⟩, .slice none 0 0] 33)) b A c { p with md := p.md + 1 }) := Lib.hid ((h.md (p.md + 1)).step (by (repeat' first | (with_reducible first | exact .refl _ _ | assumption | apply balloc | apply Below.drew | apply bset | refine bstep ?_ ‹_› | refine bturn ?_ ‹_› ?_) | go_size)))
 have K3 : Hid (Blk ((w.setCell ⟨b, 5, none⟩ (.int .i64 (p.md + 1))).alloc (.cells #[.int .i64 0, .int .i64 0, .int .i64 0, .int .i64 0, .string ⟨#[]⟩, .int .i64 0, .string ⟨#[]⟩, .slice none 0 0] 33)) w.heap.size 33 #[.int .i64 0, .int .i64 0, .int .i64 0, .int .i64 0, .string ⟨#[]⟩, .int .i64 0, .string ⟨#[]⟩, .slice none 0 0]) := Lib.hid (Blk.new' _ _ _ (by simp [World.setCell]))
 have G3 : Hid (Gr b w ((w.setCell ⟨b, 5, none⟩ (.int .i64 (p.md + 1))).alloc (.cells #[.int .i64 0, .int .i64 0, .int .i64 0, .int .i64 0, .string ⟨#[]⟩, .int .i64 0, .string ⟨#[]⟩, .slice none 0 0] 33))) := Lib.hid (((Gr.refl b w).set 5 (.int .i64 (p.md + 1))).alloc _)
 have H := Lib.hid h
 by_cases hg : 4096 < p.md + 1
 · have he : p.made = ({ p with md := p.md + 1 } : PS).fail 10 := by unfold PS.made; rw [if_pos hg]
   rw [he]
   have KF := Lib.hid (fun (W : World) (h : PB W b A c { p with md := p.md + 1 }) => fail_any b A c { p with md := p.md + 1 } 10 W h)
   have hbp := (h).blk; obtain ⟨hlp, hllp, qp0, qp1, qp2, qp3, qp4, qp5, zp0, zp1, zp2, zp3, zp4, zp5⟩ := bf6 hbp; (try simp at qp0 qp1 qp2 qp3 qp4 qp5); have Hhbp := Lib.hid hbp; clear hbp
   clear h he
   go_enter Tryz.func50, Tryz.ntmps50
   go_upto_region 3 with fail
   generalize (w.setCell ⟨b, 5, none⟩ (.int .i64 (p.md + 1))).alloc (.cells #[.int .i64 0, .int .i64 0, .int .i64 0, .int .i64 0, .string ⟨#[]⟩, .int .i64 0, .string ⟨#[]⟩, .slice none 0 0] 33) = w1 at *
   go_wp2_with fail
   refine (KF.out _ H3.out).mono ?_
   rintro e w2 ⟨rfl, h4, g4⟩
   have k4 := K3.out.gr g4 (by omega)
   go_wp2_with (refine wpList_store_blk k4 rfl _ _ _ (by rfl) _ (by rfl) (by rfl) (by repeat first | with_reducible first | exact k4 | apply Blk.alloc | apply Blk.drew | refine Blk.far ?_ (by simp <;> omega) _ | refine Blk.turn ?_ ‹_› (by omega)) (by rfl) (by kernel_rfl) (by simp [Value.oneCell']) ?_; intro wt k4n ht)
   refine ret_blk rfl k4n rfl Tryz.underlying33 rfl (by kernel_rfl) rfl ?_
   exact ⟨rfl, H.out.turnF (by rw [fail_L]) h4 ht (Nat.le_refl _), Gr.turnFar (G3.out.trans g4) ht (Nat.le_refl _)⟩
 · have he : p.made = { p with md := p.md + 1 } := by unfold PS.made; rw [if_neg hg]
   rw [he]
   have hbp := (h).blk; obtain ⟨hlp, hllp, qp0, qp1, qp2, qp3, qp4, qp5, zp0, zp1, zp2, zp3, zp4, zp5⟩ := bf6 hbp; (try simp at qp0 qp1 qp2 qp3 qp4 qp5); have Hhbp := Lib.hid hbp; clear hbp
   clear h he
   go_enter Tryz.func50, Tryz.ntmps50
   go_upto_region 4 with fail
   generalize (w.setCell ⟨b, 5, none⟩ (.int .i64 (p.md + 1))).alloc (.cells #[.int .i64 0, .int .i64 0, .int .i64 0, .int .i64 0, .string ⟨#[]⟩, .int .i64 0, .string ⟨#[]⟩, .slice none 0 0] 33) = w1 at *
   have k4 := K3.out
   go_wp2_with (refine wpList_store_blk k4 rfl _ _ _ (by rfl) _ (by rfl) (by rfl) (by repeat first | with_reducible first | exact k4 | apply Blk.alloc | apply Blk.drew | refine Blk.far ?_ (by simp <;> omega) _ | refine Blk.turn ?_ ‹_› (by omega)) (by rfl) (by kernel_rfl) (by simp [Value.oneCell']) ?_; intro wt k4n ht)
   refine ret_blk rfl k4n rfl Tryz.underlying33 rfl (by kernel_rfl) rfl ?_
   exact ⟨rfl, H.out.turnF rfl H3.out ht (Nat.le_refl _), Gr.turnFar G3.out ht (Nat.le_refl _)⟩
/-- A level of operators in memory: its signs at gs, its numbers at go. -/
structure LV (w : World) (g n gs gi : Nat) : Prop where
 c0 : w.cell? ⟨g, n * 3, none⟩ = some (.slice (some ⟨gs, 0, none⟩) (levelS n).1.length (levelS n).1.length)
 c1 : w.cell? ⟨g, n * 3 + 1, none⟩ = some (.slice (some ⟨gi, 0, none⟩) (levelS n).1.length (levelS n).1.length)
 c2 : w.cell? ⟨g, n * 3 + 2, none⟩ = some (.bool (levelS n).2)
 ss : SS w gs ((levelS n).1.map (·.1))
 is : ∀ i q, (levelS n).1[i]? = some q → w.cell? ⟨gi, i, none⟩ = some (.int .i64 q.2)
theorem LV.keep {w w' : World} {g n gs gi : Nat} (h : LV w g n gs gi) (hk : ∀ a v, w.cell? a = some v → (a.block = g ∨ a.block = gs ∨ a.block = gi) → w'.cell? a = some v) : LV w' g n gs gi :=
 ⟨hk _ _ h.c0 (.inl rfl), hk _ _ h.c1 (.inl rfl), hk _ _ h.c2 (.inl rfl), fun i l hl => hk _ _ (h.ss i l hl) (.inr (.inl rfl)), fun i q hq => hk _ _ (h.is i q hq) (.inr (.inr rfl))⟩
theorem LV.of {w : World} {g n gs gi : Nat} {T T2 T3 : TypeId} {row : Array Value} (hr : Blk w g T row) (h0 : row[n * 3]? = some (.slice (some ⟨gs, 0, none⟩) (levelS n).1.length (levelS n).1.length)) (h1 : row[n * 3 + 1]? = some (.slice (some ⟨gi, 0, none⟩) (levelS n).1.length (levelS n).1.length)) (h2 : row[n * 3 + 2]? = some (.bool (levelS n).2))
   (hs : Blk w gs T2 ((levelS n).1.map fun q => Value.string (bs q.1)).toArray) (hi : Blk w gi T3 ((levelS n).1.map fun q => Value.int .i64 q.2).toArray) : LV w g n gs gi := by
 refine ⟨(hr.cell _).trans h0, (hr.cell _).trans h1, (hr.cell _).trans h2, SS.of_blk (T := T2) (by rw [List.map_map]; exact hs), fun i q hq => ?_⟩
 rw [hi.cell, List.getElem?_toArray, List.getElem?_map, hq]
 rfl
/-- What is told of a function that answers levels, and where they lie. -/
def LVS (w w' : World) (g : Nat) : Prop := w.heap.size ≤ g ∧ ∀ n, n ≤ 4 → ∃ gs gi, w.heap.size ≤ gs ∧ w.heap.size ≤ gi ∧ LV w' g n gs gi
set_option maxHeartbeats 4000000 in
theorem levels_any (w : World) : Calls Tryz.prog 75 #[] w fun e w' => (∃ g, e = .returned (.slice (some ⟨g, 0, none⟩) 5 5) ∧ LVS w w' g) ∧ Below w.heap.size w w' := by
 go_enter Tryz.func75, Tryz.ntmps75
 go_wp2_with fail
 go_returns
 have hb0 : Below w.heap.size w w := Below.refl _ _
 refine ⟨⟨_, rfl, by omega, fun n hn => ?_⟩, by (repeat' first | (with_reducible first | exact .refl _ _ | assumption | apply balloc | apply Below.drew | apply bset | refine bstep ?_ ‹_› | refine bturn ?_ ‹_› ?_) | go_size)⟩
 match n, hn with
 | 0, _ =>
   refine ⟨_, _, ?_, ?_, LV.of (T2 := 9) (T3 := 3) (Blk.new' _ _ _ (by simp)) rfl rfl rfl ?_ ?_⟩
   case refine_3 =>
     iterate 10 refine Blk.alloc ?_ _
     exact Blk.new' _ _ _ (by simp)
   case refine_4 =>
     iterate 9 refine Blk.alloc ?_ _
     exact Blk.new' _ _ _ (by simp)
   all_goals omega
 | 1, _ =>
   refine ⟨_, _, ?_, ?_, LV.of (T2 := 9) (T3 := 3) (Blk.new' _ _ _ (by simp)) rfl rfl rfl ?_ ?_⟩
   case refine_3 =>
     iterate 8 refine Blk.alloc ?_ _
     exact Blk.new' _ _ _ (by simp)
   case refine_4 =>
     iterate 7 refine Blk.alloc ?_ _
     exact Blk.new' _ _ _ (by simp)
   all_goals omega
 | 2, _ =>
   refine ⟨_, _, ?_, ?_, LV.of (T2 := 9) (T3 := 3) (Blk.new' _ _ _ (by simp)) rfl rfl rfl ?_ ?_⟩
   case refine_3 =>
     iterate 6 refine Blk.alloc ?_ _
     exact Blk.new' _ _ _ (by simp)
   case refine_4 =>
     iterate 5 refine Blk.alloc ?_ _
     exact Blk.new' _ _ _ (by simp)
   all_goals omega
 | 3, _ =>
   refine ⟨_, _, ?_, ?_, LV.of (T2 := 9) (T3 := 3) (Blk.new' _ _ _ (by simp)) rfl rfl rfl ?_ ?_⟩
   case refine_3 =>
     iterate 4 refine Blk.alloc ?_ _
     exact Blk.new' _ _ _ (by simp)
   case refine_4 =>
     iterate 3 refine Blk.alloc ?_ _
     exact Blk.new' _ _ _ (by simp)
   all_goals omega
 | 4, _ =>
   refine ⟨_, _, ?_, ?_, LV.of (T2 := 9) (T3 := 3) (Blk.new' _ _ _ (by simp)) rfl rfl rfl ?_ ?_⟩
   case refine_3 =>
     iterate 2 refine Blk.alloc ?_ _
     exact Blk.new' _ _ _ (by simp)
   case refine_4 =>
     iterate 1 refine Blk.alloc ?_ _
     exact Blk.new' _ _ _ (by simp)
   all_goals omega
/-- Where the first sign stands that is next. -/
def fndR (p : PS) (L : List Bs) (r : Int) : Prop := (r < 0 ∧ ∀ (j : Nat) s, L[j]? = some s → p.isS s = false) ∨ ∃ (k : Nat) (s : Bs), r = (k : Int) ∧ L[k]? = some s ∧ p.isS s = true ∧ ∀ (j : Nat) s, j < k → L[j]? = some s → p.isS s = false
theorem find_walk (b : Nat) (A : Option Addr) (c : Nat) (p : PS) (g : Nat) (L : List Bs) (hL : L.length ≤ 1000) (w : World) (h : PB w b A c p) (hS : SS w g L) :
   Calls Tryz.prog 77 #[.slice (some ⟨g, 0, none⟩) L.length L.length, .func (.func 74) #[.pointer (some ⟨b, 0, none⟩)] #[]] w fun e w' => (∃ r : Int, e = .returned (.int .i64 r) ∧ fndR p L r) ∧ Below w.heap.size w w' := by
 have KI := Lib.hid (fun (l : Bs) (W : World) (hb : Below w.heap.size w W) => is_any b A c p l W (h.step hb))
 have HS := Lib.hid hS
 clear h hS
 go_enter Tryz.func77, Tryz.ntmps77
 go_wp2_with fail
 go_loopw [8] (fun i wr => ∃ k : Nat, k ≤ L.length ∧ i = .int .i64 (k : Int) ∧ Below w.heap.size w wr ∧ Hid (∀ (j : Nat) (s : Bs), j < k → L[j]? = some s → p.isS s = false)) (fun i _ => L.length - (intOf i).toNat)
 case atStart => exact ⟨0, by omega, rfl, Below.refl _ _, Lib.hid (fun j t h => absurd h (by omega))⟩
 case round =>
   obtain ⟨k, hk, rfl, hb, HQ⟩ := hrel
   by_cases hlt : k < L.length
   · obtain ⟨t, ht⟩ : ∃ t, L[k]? = some t := ⟨L[k], List.getElem?_eq_getElem hlt⟩
     have hki : (k : Int) < (L.length : Int) := by omega
     have hkn : IntKind.i64.wrap ((k : Int) + 1) = ((k + 1 : Nat) : Int) := by rw [IntWalk.i64_in _ (by omega)]; omega
     have c0 := keep1 hb (HS.out k t ht)
     have KP1 := Lib.hid (KI.out t)
     obtain ⟨r, hr⟩ : ∃ r, p.isS t = r := ⟨_, rfl⟩
     rw [hr] at KP1
     have HY : Hid (r = true → fndR p L (k : Int)) := Lib.hid (fun h => .inr ⟨k, t, rfl, ht, hr.trans h, HQ.out⟩)
     have HN : Hid (r = false → ∀ (j : Nat) (t : Bs), j < k + 1 → L[j]? = some t → p.isS t = false) := Lib.hid (fun h j u hj hu => by
       by_cases he : j = k
       · subst he
         rw [ht] at hu
         injection hu with hu
         rw [← hu, hr, h]
       · exact HQ.out j u (by omega) hu)
     obtain ⟨q, hq⟩ : ∃ q, bs t = q := ⟨_, rfl⟩
     rw [hq] at c0 KP1
     clear hr ht HQ hq
     go_wp2_with fail
     refine (KP1.out _ hb).mono ?_
     rintro e w2 ⟨rfl, hb2⟩
     clear c0
     cases r with
     | true =>
       go_wp2_with fail
       go_returns
       exact ⟨⟨k, rfl, HY.out (by simp)⟩, by (repeat' first | (with_reducible first | exact .refl _ _ | assumption | apply balloc | apply Below.drew | apply bset | refine bstep ?_ ‹_› | refine bturn ?_ ‹_› ?_) | go_size)⟩
     | false =>
       go_wp2_with fail
       go_roundw
       case rel => exact ⟨k + 1, by omega, by go_num, by (repeat' first | (with_reducible first | exact .refl _ _ | assumption | apply balloc | apply Below.drew | apply bset | refine bstep ?_ ‹_› | refine bturn ?_ ‹_› ?_) | go_size), Lib.hid (HN.out (by simp))⟩
       case measure => simp [intOf]; omega
   · obtain rfl : k = L.length := by omega
     have HN : Hid (fndR p L (-1)) := Lib.hid (.inl ⟨by decide, fun j s hj => HQ.out j s (List.getElem?_eq_some_iff.1 hj).1 hj⟩)
     clear hlt HQ
     go_wp2_with fail
     go_returns
     exact ⟨⟨-1, rfl, HN.out⟩, hb⟩
/-- What is found says which operator is next. -/
theorem find_oper {p : PS} {n : Nat} {r : Int} (h : fndR p ((levelS n).1.map (·.1)) r) : (r < 0 ∧ p.oper n = none) ∨ ∃ (k : Nat) (q : Bs × Int), r = (k : Int) ∧ (levelS n).1[k]? = some q ∧ p.isS q.1 = true ∧ p.oper n = some q.2 := by
 unfold PS.oper
 generalize (levelS n).1 = L at *
 rcases h with ⟨h1, h2⟩ | ⟨k, s, h1, h2, h3, h4⟩
 · refine .inl ⟨h1, ?_⟩
   rw [List.find?_eq_none.2 fun q hq => ?_]
   · rfl
   · obtain ⟨j, hj⟩ := List.mem_iff_getElem?.1 hq
     rw [h2 j q.1 (by rw [List.getElem?_map, hj]; rfl)]
     decide
 · rw [List.getElem?_map] at h2
   cases hq : L[k]? with
   | none => rw [hq] at h2; cases h2
   | some q =>
     rw [hq] at h2
     injection h2 with h2
     simp only at h2
     subst h2
     refine .inr ⟨k, q, h1, hq, h3, ?_⟩
     have : L.find? (fun g => p.isS g.1) = some q := by
       rw [List.find?_eq_some_iff_getElem]
       obtain ⟨hk, he⟩ := List.getElem?_eq_some_iff.1 hq
       refine ⟨h3, k, hk, he, fun j hj => ?_⟩
       rw [h4 j L[j].1 hj (by rw [List.getElem?_map, List.getElem?_eq_getElem (by omega)]; rfl)]
       rfl
     rw [this]
     rfl
end Go.Proofs.YtapilekangmcoaaGreatDoor
namespace Go.Proofs.YtapilekangmcoaaGreatDoor
open Go.RowKit
theorem XM.cells {S : Nat → Prop} {w : World} {x : Ex} {cs : Array Value} (h : XM S w x cs) : ∃ (o k n s : Int) (q : ByteArray) (m : Int) (r : ByteArray) (B : Option Addr) (l c : Nat), cs = #[.int .i64 o, .int .i64 k, .int .i64 n, .int .i64 s, .string q, .int .i64 m, .string r, .slice B l c] := by
 obtain ⟨A, c, rfl⟩ := h.get
 exact ⟨_, _, _, _, _, _, _, _, _, _, rfl⟩
theorem put_none (a : Act) : a.put none undef = a := rfl
/-- A kid's blocks lie below the world's size. -/
theorem XM.top {S : Nat → Prop} {w : World} {x : Ex} {cs : Array Value} (h : XM S w x cs) {n : Nat} (hn : w.heap.size ≤ n) : XM (fun g => S g ∧ g < n) w x cs := h.mono fun _ hs hg => ⟨hs, Nat.lt_of_lt_of_le hg hn⟩
theorem PB.drewN {w : World} {b : Nat} {A : Option Addr} {c : Nat} {p : PS} (h : PB w b A c p) (n : Nat) : PB (w.drewN n) b A c p := ⟨h.blk.drewN n, h.tm, h.nb, h.le, h.big⟩
theorem XM.drew {S : Nat → Prop} {w : World} {x : Ex} {cs : Array Value} (h : XM S w x cs) : XM S w.drew x cs := h.keep fun _ _ _ => rfl
theorem XM.drewN {S : Nat → Prop} {w : World} {x : Ex} {cs : Array Value} (h : XM S w x cs) (n : Nat) : XM S (w.drewN n) x cs := h.keep fun _ _ _ => rfl
theorem set8 {w : World} {g : Nat} {T : TypeId} {a0 a1 a2 a3 a4 a5 a6 a7 : Value} (h : Blk w g T #[a0, a1, a2, a3, a4, a5, a6, a7]) (b0 b1 b2 b3 b4 b5 b6 b7 : Value) : Blk ((((((((w.setCell ⟨g, 0, none⟩ b0).setCell ⟨g, 1, none⟩ b1).setCell ⟨g, 2, none⟩ b2).setCell ⟨g, 3, none⟩ b3).setCell ⟨g, 4, none⟩ b4).setCell ⟨g, 5, none⟩ b5).setCell ⟨g, 6, none⟩ b6).setCell ⟨g, 7, none⟩ b7) g T #[b0, b1, b2, b3, b4, b5, b6, b7] ∧ Turned w ((((((((w.setCell ⟨g, 0, none⟩ b0).setCell ⟨g, 1, none⟩ b1).setCell ⟨g, 2, none⟩ b2).setCell ⟨g, 3, none⟩ b3).setCell ⟨g, 4, none⟩ b4).setCell ⟨g, 5, none⟩ b5).setCell ⟨g, 6, none⟩ b6).setCell ⟨g, 7, none⟩ b7) g := by
 refine ⟨?_, ?_⟩
 · have := (((((((h.set_ 0 b0).set_ 1 b1).set_ 2 b2).set_ 3 b3).set_ 4 b4).set_ 5 b5).set_ 6 b6).set_ 7 b7
   simpa using this
 · exact (((((((Turned.setCell _ _ _ _).trans (Turned.setCell _ _ _ _)).trans (Turned.setCell _ _ _ _)).trans (Turned.setCell _ _ _ _)).trans (Turned.setCell _ _ _ _)).trans (Turned.setCell _ _ _ _)).trans (Turned.setCell _ _ _ _)).trans (Turned.setCell _ _ _ _)
/-- How a call that reads an expression ends. -/
def EOut (b : Nat) (A : Option Addr) (c : Nat) (w w' : World) (r : Ex × PS) (e : Ending) : Prop :=
 (∃ cs, e = .returned (.agg cs) ∧ XM (fun g => w.heap.size ≤ g) w' r.1 cs) ∧ PB w' b A c r.2 ∧ Gr b w w'
def ExprC (f : Nat) : Prop := ∀ (b : Nat) (A : Option Addr) (c : Nat) (p : PS) (d k : Nat) (w : World), PB w b A c p → Rm 0 k p → 8 * k + 8 ≤ f → d + k ≤ 200000 →
 Calls Tryz.prog 25 #[.pointer (some ⟨b, 0, none⟩), .int .i64 (d : Int)] w fun e w' => EOut b A c w w' (exprF wordB f p d) e
def ChainC (f : Nat) : Prop := ∀ (b : Nat) (A : Option Addr) (c : Nat) (p : PS) (d n k : Nat) (w : World), PB w b A c p → Rm 0 k p → n ≤ 5 → 8 * k + 7 ≤ f + n → d + k ≤ 200000 →
 Calls Tryz.prog 48 #[.pointer (some ⟨b, 0, none⟩), .int .i64 (d : Int), .int .i64 (n : Int)] w fun e w' => EOut b A c w w' (chainF wordB f p d n) e
def PrefC (f : Nat) : Prop := ∀ (b : Nat) (A : Option Addr) (c : Nat) (p : PS) (d k : Nat) (w : World), PB w b A c p → Rm 0 k p → 8 * k + 1 ≤ f → d + k ≤ 200000 →
 Calls Tryz.prog 76 #[.pointer (some ⟨b, 0, none⟩), .int .i64 (d : Int)] w fun e w' => EOut b A c w w' (prefixF wordB f p d) e
end Go.Proofs.YtapilekangmcoaaGreatDoor
namespace Go.Proofs.YtapilekangmcoaaGreatDoor
open Go.RowKit
theorem expr_else {f : Nat} {p : PS} {d : Nat} (h : ¬ ((p.deep d).e = 0 ∧ (p.deep d).isS bIf = true)) : exprF wordB (f + 1) p d = chainF wordB f (p.deep d) d 0 := by
 rw [exprF, if_neg h]
theorem deep_lo {p : PS} {d : Nat} (h : ¬ 64 < d) : p.deep d = p := by unfold PS.deep; rw [if_neg h]
theorem deep_hi {p : PS} {d : Nat} (h : 64 < d) : p.deep d = p.fail 9 ∧ ¬ (p.fail 9).e = 0 := by
 unfold PS.deep
 rw [if_pos h]
 exact ⟨rfl, fail_e (by decide)⟩
set_option maxHeartbeats 4000000 in
/-- Behind the call of chain. -/
theorem expr_1 (b : Nat) (A : Option Addr) (c : Nat) (p q : PS) (r : Ex × PS) (d : Nat) (w : World) (h : PB w b A c p) (hw : (64 < d ∧ p.fail 9 = q) ∨ (¬ 64 < d ∧ ¬ p.e = 0 ∧ p = q) ∨ (¬ 64 < d ∧ p.e = 0 ∧ p.isS bIf = false ∧ p = q)) (hr : r.2.L = p.L)
   (KC : Hid (∀ W, PB W b A c q → Calls Tryz.prog 48 #[.pointer (some ⟨b, 0, none⟩), .int .i64 (d : Int), .int .i64 0] W fun e w' => EOut b A c W w' r e)) :
   Calls Tryz.prog 25 #[.pointer (some ⟨b, 0, none⟩), .int .i64 (d : Int)] w fun e w' => EOut b A c w w' r e := by
 have hlw := h.blk.lt
 have k0 : Blk (w.alloc (.cells #[.int .i64 0, .int .i64 0, .int .i64 0, .int .i64 0, .string ⟨#[]⟩, .int .i64 0, .string ⟨#[]⟩, .slice none 0 0] 33)) w.heap.size 33 #[.int .i64 0, .int .i64 0, .int .i64 0, .int .i64 0, .string ⟨#[]⟩, .int .i64 0, .string ⟨#[]⟩, .slice none 0 0] := Blk.new _ _ _
 have hA : Below w.heap.size w (w.alloc (.cells #[.int .i64 0, .int .i64 0, .int .i64 0, .int .i64 0, .string ⟨#[]⟩, .int .i64 0, .string ⟨#[]⟩, .slice none 0 0] 33)) := by (repeat' first | (with_reducible first | exact .refl _ _ | assumption | apply balloc | apply Below.drew | apply bset | refine bstep ?_ ‹_› | refine bturn ?_ ‹_› ?_) | go_size)
 have H1 := Lib.hid (h.step hA)
 have K0 := Lib.hid k0
 have G1 := Lib.hid (Gr.of hA : Gr b w _)
 have hs1 : (w.alloc (.cells #[.int .i64 0, .int .i64 0, .int .i64 0, .int .i64 0, .string ⟨#[]⟩, .int .i64 0, .string ⟨#[]⟩, .slice none 0 0] 33)).heap.size = w.heap.size + 1 := by simp
 have HS1 := Lib.hid hs1
 have H := Lib.hid h
 have HR := Lib.hid hr
 have tail : Hid (∀ (w1 w2 : World) (cs : Array Value), w.heap.size + 1 ≤ w1.heap.size → XM (fun g => w1.heap.size ≤ g) w2 r.1 cs → XM (fun g => w.heap.size + 1 ≤ g) w2 r.1 cs) := Lib.hid fun w1 w2 cs h1 hx => hx.mono fun g hg _ => by omega
 rcases hw with ⟨hd, rfl⟩ | ⟨hd, he, rfl⟩ | ⟨hd, he, hi, rfl⟩
 · have hdi : (64 : Int) < (d : Int) := by omega
   have KF := Lib.hid (fun (W : World) (h : PB W b A c p) => fail_any b A c p 9 W h)
   have hne : ((p.fail 9).e != 0) = true := by simpa using (deep_hi (p := p) hd).2
   have HNE := Lib.hid hne
   clear h k0 hA hs1 hr hne hd
   go_enter Tryz.func25, Tryz.ntmps25
   go_upto_region 2 with fail
   generalize (w.alloc (.cells #[.int .i64 0, .int .i64 0, .int .i64 0, .int .i64 0, .string ⟨#[]⟩, .int .i64 0, .string ⟨#[]⟩, .slice none 0 0] 33)) = w1 at *
   go_wp2_with fail
   refine (KF.out _ H1.out).mono ?_
   rintro e w2 ⟨rfl, h2, g2⟩
   have k2 := K0.out.gr g2 (by omega)
   have hz2 := g2.size
   have hz1 := HS1.out
   have hne := HNE.out
   obtain ⟨q, hq⟩ : ∃ q, p.fail 9 = q := ⟨_, rfl⟩
   rw [hq] at hne h2 KC
   have H2 := Lib.hid h2
   have K2 := Lib.hid k2
   clear k2 hq HNE KF
   have hbp := (h2).blk; obtain ⟨hlp, hllp, qp0, qp1, qp2, qp3, qp4, qp5, zp0, zp1, zp2, zp3, zp4, zp5⟩ := bf6 hbp; (try simp at qp0 qp1 qp2 qp3 qp4 qp5); have Hhbp := Lib.hid hbp; clear hbp
   clear h2
   go_wp2_with fail
   refine (KC.out _ H2.out).mono ?_
   rintro e w3 ⟨⟨cs, rfl, hx⟩, h3, g3⟩
   have hx2 := tail.out _ _ _ (by omega) hx
   have k3 := K2.out.gr g3 (by omega)
   obtain ⟨o, k, n, s, q2, m, r2, B, l, cc, rfl⟩ := hx.cells
   clear qp0 zp0 qp1 zp1 qp2 zp2 qp3 zp3 qp4 zp4 qp5 zp5 hlp hllp Hhbp
   go_wp2_with (refine wpList_store_blk k3 rfl _ _ _ (by rfl) _ (by rfl) (by rfl) (by repeat first | with_reducible first | exact k3 | apply Blk.alloc | apply Blk.drew | refine Blk.far ?_ (by simp <;> omega) _ | refine Blk.turn ?_ ‹_› (by omega)) (by rfl) (by kernel_rfl) (by simp [Value.oneCell']) ?_; intro wt k3n ht)
   refine ret_blk rfl k3n rfl Tryz.underlying33 rfl (by kernel_rfl) rfl ?_
   exact ⟨⟨_, rfl, (hx2.turn ht fun g hg => by omega).mono fun g hg _ => by omega⟩, H.out.turnF HR.out.symm h3 ht (Nat.le_refl _), Gr.turnFar ((G1.out.trans g2).trans g3) ht (Nat.le_refl _)⟩
 · have hdi : ¬ (64 : Int) < (d : Int) := by omega
   have hne : (p.e != 0) = true := by simpa using he
   have h1 := H1.out
   clear h k0 hA hs1 hr hd he
   go_enter Tryz.func25, Tryz.ntmps25
   go_upto_region 3 with fail
   generalize (w.alloc (.cells #[.int .i64 0, .int .i64 0, .int .i64 0, .int .i64 0, .string ⟨#[]⟩, .int .i64 0, .string ⟨#[]⟩, .slice none 0 0] 33)) = w1 at *
   have hz1 := HS1.out
   have hbp := (h1).blk; obtain ⟨hlp, hllp, qp0, qp1, qp2, qp3, qp4, qp5, zp0, zp1, zp2, zp3, zp4, zp5⟩ := bf6 hbp; (try simp at qp0 qp1 qp2 qp3 qp4 qp5); have Hhbp := Lib.hid hbp; clear hbp
   clear h1
   go_wp2_with fail
   refine (KC.out _ H1.out).mono ?_
   rintro e w3 ⟨⟨cs, rfl, hx⟩, h3, g3⟩
   have hx2 := tail.out _ _ _ (by omega) hx
   have k3 := K0.out.gr g3 (by omega)
   obtain ⟨o, k, n, s, q2, m, r2, B, l, cc, rfl⟩ := hx.cells
   clear qp0 zp0 qp1 zp1 qp2 zp2 qp3 zp3 qp4 zp4 qp5 zp5 hlp hllp Hhbp
   go_wp2_with (refine wpList_store_blk k3 rfl _ _ _ (by rfl) _ (by rfl) (by rfl) (by repeat first | with_reducible first | exact k3 | apply Blk.alloc | apply Blk.drew | refine Blk.far ?_ (by simp <;> omega) _ | refine Blk.turn ?_ ‹_› (by omega)) (by rfl) (by kernel_rfl) (by simp [Value.oneCell']) ?_; intro wt k3n ht)
   refine ret_blk rfl k3n rfl Tryz.underlying33 rfl (by kernel_rfl) rfl ?_
   exact ⟨⟨_, rfl, (hx2.turn ht fun g hg => by omega).mono fun g hg _ => by omega⟩, H.out.turnF HR.out.symm h3 ht (Nat.le_refl _), Gr.turnFar (G1.out.trans g3) ht (Nat.le_refl _)⟩
 · have hdi : ¬ (64 : Int) < (d : Int) := by omega
   have KT := Lib.hid (fun (W : World) (h : PB W b A c p) => take_any b A c p bIf W h)
   rw [hi, take_no hi] at KT
   have h1 := H1.out
   have HE := Lib.hid he
   clear h k0 hA hs1 hr hd hi he
   go_enter Tryz.func25, Tryz.ntmps25
   go_upto_region 3 with fail
   generalize (w.alloc (.cells #[.int .i64 0, .int .i64 0, .int .i64 0, .int .i64 0, .string ⟨#[]⟩, .int .i64 0, .string ⟨#[]⟩, .slice none 0 0] 33)) = w1 at *
   have hz1 := HS1.out
   have hbp := (h1).blk; obtain ⟨hlp, hllp, qp0, qp1, qp2, qp3, qp4, qp5, zp0, zp1, zp2, zp3, zp4, zp5⟩ := bf6 hbp; (try simp at qp0 qp1 qp2 qp3 qp4 qp5); have Hhbp := Lib.hid hbp; clear hbp
   rw [HE.out] at qp4
   clear h1
   go_wp2_with fail
   refine (KT.out _ H1.out).mono ?_
   rintro e w2 ⟨rfl, h2, g2⟩
   have k2 := K0.out.gr g2 (by omega)
   have hz2 := g2.size
   have K2 := Lib.hid k2
   clear k2
   clear qp0 zp0 qp1 zp1 qp2 zp2 qp3 zp3 qp4 zp4 qp5 zp5 hlp hllp Hhbp
   go_wp2_with fail
   refine (KC.out _ h2).mono ?_
   rintro e w3 ⟨⟨cs, rfl, hx⟩, h3, g3⟩
   have hx2 := tail.out _ _ _ (by omega) hx
   have k3 := K2.out.gr g3 (by omega)
   obtain ⟨o, k, n, s, q2, m, r2, B, l, cc, rfl⟩ := hx.cells
   go_wp2_with (refine wpList_store_blk k3 rfl _ _ _ (by rfl) _ (by rfl) (by rfl) (by repeat first | with_reducible first | exact k3 | apply Blk.alloc | apply Blk.drew | refine Blk.far ?_ (by simp <;> omega) _ | refine Blk.turn ?_ ‹_› (by omega)) (by rfl) (by kernel_rfl) (by simp [Value.oneCell']) ?_; intro wt k3n ht)
   refine ret_blk rfl k3n rfl Tryz.underlying33 rfl (by kernel_rfl) rfl ?_
   exact ⟨⟨_, rfl, (hx2.turn ht fun g hg => by omega).mono fun g hg _ => by omega⟩, H.out.turnF HR.out.symm h3 ht (Nat.le_refl _), Gr.turnFar ((G1.out.trans g2).trans g3) ht (Nat.le_refl _)⟩
end Go.Proofs.YtapilekangmcoaaGreatDoor
namespace Go.Proofs.YtapilekangmcoaaGreatDoor
open Go.RowKit
theorem pref_0 (b : Nat) (A : Option Addr) (c : Nat) (p : PS) (d : Nat) (w : World) (h : PB w b A c p) (he : ¬ p.e = 0) :
   Calls Tryz.prog 76 #[.pointer (some ⟨b, 0, none⟩), .int .i64 (d : Int)] w fun e w' => EOut b A c w w' (zeroE, p) e := by
 have hlw := h.blk.lt
 have k0 : Blk (w.alloc (.cells #[.int .i64 0, .int .i64 0, .int .i64 0, .int .i64 0, .string ⟨#[]⟩, .int .i64 0, .string ⟨#[]⟩, .slice none 0 0] 33)) w.heap.size 33 #[.int .i64 0, .int .i64 0, .int .i64 0, .int .i64 0, .string ⟨#[]⟩, .int .i64 0, .string ⟨#[]⟩, .slice none 0 0] := Blk.new _ _ _
 have hA : Below w.heap.size w (w.alloc (.cells #[.int .i64 0, .int .i64 0, .int .i64 0, .int .i64 0, .string ⟨#[]⟩, .int .i64 0, .string ⟨#[]⟩, .slice none 0 0] 33)) := by (repeat' first | (with_reducible first | exact .refl _ _ | assumption | apply balloc | apply Below.drew | apply bset | refine bstep ?_ ‹_› | refine bturn ?_ ‹_› ?_) | go_size)
 have H1 := Lib.hid (h.step hA)
 have K0 := Lib.hid k0
 have G1 := Lib.hid (Gr.of hA : Gr b w _)
 have HS1 : Hid ((w.alloc (.cells #[.int .i64 0, .int .i64 0, .int .i64 0, .int .i64 0, .string ⟨#[]⟩, .int .i64 0, .string ⟨#[]⟩, .slice none 0 0] 33)).heap.size = w.heap.size + 1) := Lib.hid (by simp)
 have H := Lib.hid h
 have h1 := H1.out
 have hne : (p.e != 0) = true := by simpa using he
 clear h k0 hA he
 go_enter Tryz.func76, Tryz.ntmps76
 go_upto_region 1 with fail
 generalize (w.alloc (.cells #[.int .i64 0, .int .i64 0, .int .i64 0, .int .i64 0, .string ⟨#[]⟩, .int .i64 0, .string ⟨#[]⟩, .slice none 0 0] 33)) = w1 at *
 have hz1 := HS1.out
 have hbp := (h1).blk; obtain ⟨hlp, hllp, qp0, qp1, qp2, qp3, qp4, qp5, zp0, zp1, zp2, zp3, zp4, zp5⟩ := bf6 hbp; (try simp at qp0 qp1 qp2 qp3 qp4 qp5); have Hhbp := Lib.hid hbp; clear hbp
 have k1 := K0.out
 clear h1
 go_wp2_with (refine wpList_store_blk k1 rfl _ _ _ (by rfl) _ (by rfl) (by rfl) (by repeat first | with_reducible first | exact k1 | apply Blk.alloc | apply Blk.drew | refine Blk.far ?_ (by simp <;> omega) _ | refine Blk.turn ?_ ‹_› (by omega)) (by rfl) (by kernel_rfl) (by simp [Value.oneCell']) ?_; intro wt k1n ht)
 refine ret_blk rfl k1n rfl Tryz.underlying33 rfl (by kernel_rfl) rfl ?_
 exact ⟨⟨_, rfl, zero_xm⟩, H.out.turnF rfl H1.out ht (Nat.le_refl _), Gr.turnFar G1.out ht (Nat.le_refl _)⟩
theorem pref_1 (b : Nat) (A : Option Addr) (c : Nat) (p : PS) (p1 q1 : PS) (x1 : Ex) (d : Nat) (w : World) (h : PB w b A c p) (he : p.e = 0) (hi : p.isS [45] = true) (hp1 : p.adv = p1) (hm0 : 0 ≤ q1.md) (hm1 : q1.md ≤ 200000) (hr : q1.L = p.L)
   (KP : Hid (∀ W, PB W b A c p1 → Calls Tryz.prog 76 #[.pointer (some ⟨b, 0, none⟩), .int .i64 (d : Int)] W fun e w' => EOut b A c W w' (x1, q1) e)) :
   Calls Tryz.prog 76 #[.pointer (some ⟨b, 0, none⟩), .int .i64 (d : Int)] w fun e w' => EOut b A c w w' (.mk 3 zeroV [] [x1], q1.made) e := by
 have hlw := h.blk.lt
 have k0 : Blk (w.alloc (.cells #[.int .i64 0, .int .i64 0, .int .i64 0, .int .i64 0, .string ⟨#[]⟩, .int .i64 0, .string ⟨#[]⟩, .slice none 0 0] 33)) w.heap.size 33 #[.int .i64 0, .int .i64 0, .int .i64 0, .int .i64 0, .string ⟨#[]⟩, .int .i64 0, .string ⟨#[]⟩, .slice none 0 0] := Blk.new _ _ _
 have hA : Below w.heap.size w (w.alloc (.cells #[.int .i64 0, .int .i64 0, .int .i64 0, .int .i64 0, .string ⟨#[]⟩, .int .i64 0, .string ⟨#[]⟩, .slice none 0 0] 33)) := by (repeat' first | (with_reducible first | exact .refl _ _ | assumption | apply balloc | apply Below.drew | apply bset | refine bstep ?_ ‹_› | refine bturn ?_ ‹_› ?_) | go_size)
 have H1 := Lib.hid (h.step hA)
 have K0 := Lib.hid k0
 have G1 := Lib.hid (Gr.of hA : Gr b w _)
 have HS1 : Hid ((w.alloc (.cells #[.int .i64 0, .int .i64 0, .int .i64 0, .int .i64 0, .string ⟨#[]⟩, .int .i64 0, .string ⟨#[]⟩, .slice none 0 0] 33)).heap.size = w.heap.size + 1) := Lib.hid (by simp)
 have H := Lib.hid h
 have h1 := H1.out
 have HR : Hid (q1.made.L = p.L) := Lib.hid ((made_L q1).trans hr)
 have KT := Lib.hid (fun (W : World) (h : PB W b A c p) => take_any b A c p [45] W h)
 have KM := Lib.hid (fun (B : Option Addr) (n cp : Nat) (W : World) (h : PB W b A c q1) => emake_any b A c q1 3 B n cp W h hm0 hm1)
 rw [hi, take_yes hi, hp1] at KT
 have HE := Lib.hid he
 clear h k0 hA hr hi he hp1 hm0 hm1
 go_enter Tryz.func76, Tryz.ntmps76
 go_upto_region 1 with fail
 generalize (w.alloc (.cells #[.int .i64 0, .int .i64 0, .int .i64 0, .int .i64 0, .string ⟨#[]⟩, .int .i64 0, .string ⟨#[]⟩, .slice none 0 0] 33)) = w1 at *
 have hz1 := HS1.out
 have hbp := (h1).blk; obtain ⟨hlp, hllp, qp0, qp1, qp2, qp3, qp4, qp5, zp0, zp1, zp2, zp3, zp4, zp5⟩ := bf6 hbp; (try simp at qp0 qp1 qp2 qp3 qp4 qp5); have Hhbp := Lib.hid hbp; clear hbp
 rw [HE.out] at qp4
 clear h1
 go_wp2_with fail
 refine (KT.out _ H1.out).mono ?_
 rintro e w2 ⟨rfl, h2, g2⟩
 have hz2 := g2.size
 have K2 := Lib.hid (K0.out.gr g2 (by omega))
 have G2 := Lib.hid (G1.out.trans g2)
 clear qp0 zp0 qp1 zp1 qp2 zp2 qp3 zp3 qp4 zp4 qp5 zp5 hlp hllp Hhbp
 go_wp2_with fail
 refine (KP.out _ h2).mono ?_
 rintro e w3 ⟨⟨cs, rfl, hx⟩, h3, g3⟩
 have hz3 := g3.size
 have K3 := Lib.hid (K2.out.gr g3 (by omega))
 have G3 := Lib.hid (G2.out.trans g3)
 obtain ⟨o, k, n, s, q2, m, r2, B, l, cc, rfl⟩ := hx.cells
 have X3 := Lib.hid (hx.mono fun g hg _ => (show w.heap.size + 1 ≤ g by omega))
 have HP3 := Lib.hid h3
 clear hx h2 h3 g3 g2
 go_wp2_with fail
 refine (KM.out _ _ _ _ (HP3.out.step (by (repeat' first | (with_reducible first | exact .refl _ _ | assumption | apply balloc | apply Below.drew | apply bset | refine bstep ?_ ‹_› | refine bturn ?_ ‹_› ?_) | go_size)))).mono ?_
 rintro e w4 ⟨rfl, h4, g4⟩
 have KK := Lib.hid ((Blk.new w3 33 #[.int .i64 o, .int .i64 k, .int .i64 n, .int .i64 s, .string q2, .int .i64 m, .string r2, .slice B l cc]).gr g4 (by omega))
 have X4 := Lib.hid ((X3.out.step (balloc (Below.refl _ _) _)).gr g4 fun g hg => by omega)
 have k4 := (K3.out.alloc _).gr g4 (by omega)
 have G4 := Lib.hid ((G3.out.alloc _).trans g4)
 go_wp2_with (refine wpList_store_blk k4 rfl _ _ _ (by rfl) _ (by rfl) (by rfl) (by repeat first | with_reducible first | exact k4 | apply Blk.alloc | apply Blk.drew | refine Blk.far ?_ (by simp <;> omega) _ | refine Blk.turn ?_ ‹_› (by omega)) (by rfl) (by kernel_rfl) (by simp [Value.oneCell']) ?_; intro wt k4n ht)
 refine ret_blk rfl k4n rfl Tryz.underlying33 rfl (by kernel_rfl) rfl ?_
 exact ⟨⟨_, rfl, (XM.one (KK.out.turn ht (by omega)) rfl (show w.heap.size + 1 ≤ w3.heap.size by omega) (X4.out.turn ht fun g hg => by omega) 1).mono fun g hg _ => by omega⟩, H.out.turnF HR.out.symm h4 ht (Nat.le_refl _), Gr.turnFar G4.out ht (Nat.le_refl _)⟩
theorem pref_2 (b : Nat) (A : Option Addr) (c : Nat) (p : PS) (p1 q1 q2 : PS) (x1 : Ex) (d d1 : Nat) (w : World) (h : PB w b A c p) (he : p.e = 0) (hn : p.isS [45] = false) (hi : p.isS [40] = true) (hp1 : p.adv = p1) (hq : q1.need [41] = q2) (hr : q1.L = p.L) (hd : d ≤ 300000) (hd1 : d1 = d + 1)
   (KE : Hid (∀ W, PB W b A c p1 → Calls Tryz.prog 25 #[.pointer (some ⟨b, 0, none⟩), .int .i64 (d1 : Int)] W fun e w' => EOut b A c W w' (x1, q1) e)) :
   Calls Tryz.prog 76 #[.pointer (some ⟨b, 0, none⟩), .int .i64 (d : Int)] w fun e w' => EOut b A c w w' (x1, q2) e := by
 have hlw := h.blk.lt
 have k0 : Blk (w.alloc (.cells #[.int .i64 0, .int .i64 0, .int .i64 0, .int .i64 0, .string ⟨#[]⟩, .int .i64 0, .string ⟨#[]⟩, .slice none 0 0] 33)) w.heap.size 33 #[.int .i64 0, .int .i64 0, .int .i64 0, .int .i64 0, .string ⟨#[]⟩, .int .i64 0, .string ⟨#[]⟩, .slice none 0 0] := Blk.new _ _ _
 have hA : Below w.heap.size w (w.alloc (.cells #[.int .i64 0, .int .i64 0, .int .i64 0, .int .i64 0, .string ⟨#[]⟩, .int .i64 0, .string ⟨#[]⟩, .slice none 0 0] 33)) := by (repeat' first | (with_reducible first | exact .refl _ _ | assumption | apply balloc | apply Below.drew | apply bset | refine bstep ?_ ‹_› | refine bturn ?_ ‹_› ?_) | go_size)
 have H1 := Lib.hid (h.step hA)
 have K0 := Lib.hid k0
 have G1 := Lib.hid (Gr.of hA : Gr b w _)
 have HS1 : Hid ((w.alloc (.cells #[.int .i64 0, .int .i64 0, .int .i64 0, .int .i64 0, .string ⟨#[]⟩, .int .i64 0, .string ⟨#[]⟩, .slice none 0 0] 33)).heap.size = w.heap.size + 1) := Lib.hid (by simp)
 have H := Lib.hid h
 have h1 := H1.out
 have HR : Hid (q2.L = p.L) := Lib.hid (by rw [← hq]; exact (need_L _ _).trans hr)
 have KT0 := Lib.hid (fun (W : World) (h : PB W b A c p) => take_any b A c p [45] W h)
 have KT := Lib.hid (fun (W : World) (h : PB W b A c p) => take_any b A c p [40] W h)
 have KN := Lib.hid (fun (W : World) (h : PB W b A c q1) => need_any b A c q1 [41] W h)
 rw [hn, take_no hn] at KT0
 rw [hi, take_yes hi, hp1] at KT
 rw [hq] at KN
 have hdw : IntKind.i64.wrap ((d : Int) + 1) = (d1 : Int) := by rw [IntWalk.i64_in _ (by omega)]; omega
 have HE := Lib.hid he
 clear h k0 hA hr hi he hp1 hq hn hd hd1
 go_enter Tryz.func76, Tryz.ntmps76
 go_upto_region 1 with fail
 generalize (w.alloc (.cells #[.int .i64 0, .int .i64 0, .int .i64 0, .int .i64 0, .string ⟨#[]⟩, .int .i64 0, .string ⟨#[]⟩, .slice none 0 0] 33)) = w1 at *
 have hz1 := HS1.out
 have hbp := (h1).blk; obtain ⟨hlp, hllp, qp0, qp1, qp2, qp3, qp4, qp5, zp0, zp1, zp2, zp3, zp4, zp5⟩ := bf6 hbp; (try simp at qp0 qp1 qp2 qp3 qp4 qp5); have Hhbp := Lib.hid hbp; clear hbp
 rw [HE.out] at qp4
 clear h1
 go_wp2_with fail
 refine (KT0.out _ H1.out).mono ?_
 rintro e w2 ⟨rfl, h2, g2⟩
 have hz2 := g2.size
 have K2 := Lib.hid (K0.out.gr g2 (by omega))
 have G2 := Lib.hid (G1.out.trans g2)
 clear qp0 zp0 qp1 zp1 qp2 zp2 qp3 zp3 qp4 zp4 qp5 zp5 hlp hllp Hhbp
 go_wp2_with fail
 refine (KT.out _ h2).mono ?_
 rintro e w3 ⟨rfl, h3, g3⟩
 have hz3 := g3.size
 have K3 := Lib.hid (K2.out.gr g3 (by omega))
 have G3 := Lib.hid (G2.out.trans g3)
 clear h2 g2 g3 KT KT0
 go_wp2_with fail
 refine (KE.out _ h3).mono ?_
 rintro e w4 ⟨⟨cs, rfl, hx⟩, h4, g4⟩
 have hz4 := g4.size
 have K4 := Lib.hid (K3.out.gr g4 (by omega))
 have G4 := Lib.hid (G3.out.trans g4)
 obtain ⟨o, k, n, s, y2, m, r2, B, l, cc, rfl⟩ := hx.cells
 have X4 := Lib.hid ((hx.mono fun g hg _ => (show w.heap.size + 1 ≤ g by omega)).top (Nat.le_refl _))
 have kA : Blk (w4.alloc (.cells #[.int .i64 0, .int .i64 0, .int .i64 0, .int .i64 0, .string ⟨#[]⟩, .int .i64 0, .string ⟨#[]⟩, .slice none 0 0] 33)) w4.heap.size 33 #[.int .i64 0, .int .i64 0, .int .i64 0, .int .i64 0, .string ⟨#[]⟩, .int .i64 0, .string ⟨#[]⟩, .slice none 0 0] := Blk.new _ _ _
 have HP4 := Lib.hid h4
 clear hx h3 h4 g4
 go_upto_region 7 with (refine wpList_store_blk kA rfl _ _ _ (by rfl) _ (by rfl) (by rfl) (by repeat first | with_reducible first | exact kA | apply Blk.alloc | apply Blk.drew | refine Blk.far ?_ (by simp <;> omega) _ | refine Blk.turn ?_ ‹_› (by omega)) (by rfl) (by kernel_rfl) (by simp [Value.oneCell']) ?_; intro wt kAn ht)
 have hb5 : Below w4.heap.size w4 wt := bturn (balloc (Below.refl _ _) _) ht (Nat.le_refl _)
 have K5 := Lib.hid (K4.out.step hb5)
 have kA5 := Lib.hid kAn
 have hz5 : w4.heap.size < wt.heap.size := kAn.lt
 have h5 := HP4.out.step hb5
 have G5 := Lib.hid (G4.out.bstep hb5)
 have X5 := Lib.hid (X4.out.step hb5)
 clear kA kAn HP4 G4 X4 hb5 ht
 go_wp2_with fail
 refine (KN.out _ h5).mono ?_
 rintro e w6 ⟨rfl, h6, g6⟩
 have k6 := K5.out.gr g6 (by omega)
 have kA6 := kA5.out.gr g6 (by omega)
 have G6 := Lib.hid (G5.out.trans g6)
 have X6 := Lib.hid (X5.out.gr g6 fun g hg => by omega)
 have H6 := Lib.hid h6
 clear h5 h6 g6
 go_wp2_with (first | (refine wpList_load_blk kA6 rfl _ _ (by rfl) (by rfl) (by (repeat first | with_reducible first | exact kA6 | apply Blk.alloc | apply Blk.drew | refine Blk.far ?_ (by simp <;> omega) _ | refine Blk.turn ?_ ‹_› (by omega))) _ Tryz.underlying33 rfl (by kernel_rfl) ?_) | (refine wpList_store_blk k6 rfl _ _ _ (by rfl) _ (by rfl) (by rfl) (by repeat first | with_reducible first | exact k6 | apply Blk.alloc | apply Blk.drew | refine Blk.far ?_ (by simp <;> omega) _ | refine Blk.turn ?_ ‹_› (by omega)) (by rfl) (by kernel_rfl) (by simp [Value.oneCell']) ?_; intro wt k6n ht))
 refine ret_blk rfl k6n rfl Tryz.underlying33 rfl (by kernel_rfl) rfl ?_
 exact ⟨⟨_, rfl, (X6.out.turn ht fun g hg => by omega).mono fun g hg _ => by omega⟩, H.out.turnF HR.out.symm H6.out ht (Nat.le_refl _), Gr.turnFar G6.out ht (Nat.le_refl _)⟩
theorem pref_3 (b : Nat) (A : Option Addr) (c : Nat) (p : PS) (p1 p2 q1 q2 : PS) (x1 : Ex) (d d1 : Nat) (w : World) (h : PB w b A c p) (he : p.e = 0) (hn : p.isS [45] = false) (hn2 : p.isS [40] = false) (hi : p.isS bNot = true) (hp1 : p.adv = p1) (hp2 : p1.need [40] = p2) (hq : q1.need [41] = q2) (hr : q1.L = p.L) (hd : d ≤ 300000) (hd1 : d1 = d + 1) (hm0 : 0 ≤ q2.md) (hm1 : q2.md ≤ 200000)
   (KE : Hid (∀ W, PB W b A c p2 → Calls Tryz.prog 25 #[.pointer (some ⟨b, 0, none⟩), .int .i64 (d1 : Int)] W fun e w' => EOut b A c W w' (x1, q1) e)) :
   Calls Tryz.prog 76 #[.pointer (some ⟨b, 0, none⟩), .int .i64 (d : Int)] w fun e w' => EOut b A c w w' (.mk 16 zeroV [] [x1], q2.made) e := by
 have hlw := h.blk.lt
 have k0 : Blk (w.alloc (.cells #[.int .i64 0, .int .i64 0, .int .i64 0, .int .i64 0, .string ⟨#[]⟩, .int .i64 0, .string ⟨#[]⟩, .slice none 0 0] 33)) w.heap.size 33 #[.int .i64 0, .int .i64 0, .int .i64 0, .int .i64 0, .string ⟨#[]⟩, .int .i64 0, .string ⟨#[]⟩, .slice none 0 0] := Blk.new _ _ _
 have hA : Below w.heap.size w (w.alloc (.cells #[.int .i64 0, .int .i64 0, .int .i64 0, .int .i64 0, .string ⟨#[]⟩, .int .i64 0, .string ⟨#[]⟩, .slice none 0 0] 33)) := by (repeat' first | (with_reducible first | exact .refl _ _ | assumption | apply balloc | apply Below.drew | apply bset | refine bstep ?_ ‹_› | refine bturn ?_ ‹_› ?_) | go_size)
 have H1 := Lib.hid (h.step hA)
 have K0 := Lib.hid k0
 have G1 := Lib.hid (Gr.of hA : Gr b w _)
 have HS1 : Hid ((w.alloc (.cells #[.int .i64 0, .int .i64 0, .int .i64 0, .int .i64 0, .string ⟨#[]⟩, .int .i64 0, .string ⟨#[]⟩, .slice none 0 0] 33)).heap.size = w.heap.size + 1) := Lib.hid (by simp)
 have H := Lib.hid h
 have h1 := H1.out
 have HR : Hid (q2.made.L = p.L) := Lib.hid ((made_L _).trans (by rw [← hq]; exact (need_L _ _).trans hr))
 have KT0 := Lib.hid (fun (W : World) (h : PB W b A c p) => take_any b A c p [45] W h)
 have KT1 := Lib.hid (fun (W : World) (h : PB W b A c p) => take_any b A c p [40] W h)
 have KT := Lib.hid (fun (W : World) (h : PB W b A c p) => take_any b A c p bNot W h)
 have KO := Lib.hid (fun (W : World) (h : PB W b A c p1) => need_any b A c p1 [40] W h)
 have KN := Lib.hid (fun (W : World) (h : PB W b A c q1) => need_any b A c q1 [41] W h)
 have KM := Lib.hid (fun (B : Option Addr) (n cp : Nat) (W : World) (h : PB W b A c q2) => emake_any b A c q2 16 B n cp W h hm0 hm1)
 rw [hn, take_no hn] at KT0
 rw [hn2, take_no hn2] at KT1
 rw [hi, take_yes hi, hp1] at KT
 rw [hp2] at KO
 rw [hq] at KN
 have hdw : IntKind.i64.wrap ((d : Int) + 1) = (d1 : Int) := by rw [IntWalk.i64_in _ (by omega)]; omega
 have HE := Lib.hid he
 clear h k0 hA hr hi he hp1 hp2 hq hn hn2 hd hd1 hm0 hm1
 go_enter Tryz.func76, Tryz.ntmps76
 go_upto_region 1 with fail
 generalize (w.alloc (.cells #[.int .i64 0, .int .i64 0, .int .i64 0, .int .i64 0, .string ⟨#[]⟩, .int .i64 0, .string ⟨#[]⟩, .slice none 0 0] 33)) = w1 at *
 have hz1 := HS1.out
 have hbp := (h1).blk; obtain ⟨hlp, hllp, qp0, qp1, qp2, qp3, qp4, qp5, zp0, zp1, zp2, zp3, zp4, zp5⟩ := bf6 hbp; (try simp at qp0 qp1 qp2 qp3 qp4 qp5); have Hhbp := Lib.hid hbp; clear hbp
 rw [HE.out] at qp4
 clear h1
 go_wp2_with fail
 refine (KT0.out _ H1.out).mono ?_
 rintro e w2 ⟨rfl, h2, g2⟩
 have hz2 := g2.size
 have K2 := Lib.hid (K0.out.gr g2 (by omega))
 have G2 := Lib.hid (G1.out.trans g2)
 clear qp0 zp0 qp1 zp1 qp2 zp2 qp3 zp3 qp4 zp4 qp5 zp5 hlp hllp Hhbp
 go_wp2_with fail
 refine (KT1.out _ h2).mono ?_
 rintro e w3 ⟨rfl, h3, g3⟩
 have hz3 := g3.size
 have K3 := Lib.hid (K2.out.gr g3 (by omega))
 have G3 := Lib.hid (G2.out.trans g3)
 clear h2
 go_wp2_with fail
 refine (KT.out _ h3).mono ?_
 rintro e w4 ⟨rfl, h4, g4⟩
 have hz4 := g4.size
 have K4 := Lib.hid (K3.out.gr g4 (by omega))
 have G4 := Lib.hid (G3.out.trans g4)
 clear h3
 go_wp2_with fail
 refine (KO.out _ h4).mono ?_
 rintro e w5 ⟨rfl, h5, g5⟩
 have hz5 := g5.size
 have K5 := Lib.hid (K4.out.gr g5 (by omega))
 have G5 := Lib.hid (G4.out.trans g5)
 clear g2 g3 g4 g5 KT KT0 KT1 KO
 go_wp2_with fail
 refine (KE.out _ h5).mono ?_
 rintro e w6 ⟨⟨cs, rfl, hx⟩, h6, g6⟩
 have hz6 := g6.size
 have K6 := Lib.hid (K5.out.gr g6 (by omega))
 have G6 := Lib.hid (G5.out.trans g6)
 obtain ⟨o, k, n, s, y2, m, r2, B, l, cc, rfl⟩ := hx.cells
 have X6 := Lib.hid ((hx.mono fun g hg _ => (show w.heap.size + 1 ≤ g by omega)).top (Nat.le_refl _))
 have kA : Blk (w6.alloc (.cells #[.int .i64 0, .int .i64 0, .int .i64 0, .int .i64 0, .string ⟨#[]⟩, .int .i64 0, .string ⟨#[]⟩, .slice none 0 0] 33)) w6.heap.size 33 #[.int .i64 0, .int .i64 0, .int .i64 0, .int .i64 0, .string ⟨#[]⟩, .int .i64 0, .string ⟨#[]⟩, .slice none 0 0] := Blk.new _ _ _
 have HP6 := Lib.hid h6
 clear hx h5 h6 g6
 go_upto_region 12 with (refine wpList_store_blk kA rfl _ _ _ (by rfl) _ (by rfl) (by rfl) (by repeat first | with_reducible first | exact kA | apply Blk.alloc | apply Blk.drew | refine Blk.far ?_ (by simp <;> omega) _ | refine Blk.turn ?_ ‹_› (by omega)) (by rfl) (by kernel_rfl) (by simp [Value.oneCell']) ?_; intro wt kAn ht)
 have hb7 : Below w6.heap.size w6 wt := bturn (balloc (Below.refl _ _) _) ht (Nat.le_refl _)
 have K7 := Lib.hid (K6.out.step hb7)
 have kA7 := Lib.hid kAn
 have hz7 : w6.heap.size < wt.heap.size := kAn.lt
 have h7 := HP6.out.step hb7
 have G7 := Lib.hid (G6.out.bstep hb7)
 have X7 := Lib.hid (X6.out.step hb7)
 clear kA kAn HP6 G6 X6 hb7 ht
 go_wp2_with fail
 refine (KN.out _ h7).mono ?_
 rintro e w8 ⟨rfl, h8, g8⟩
 have hz8 := g8.size
 have K8 := Lib.hid (K7.out.gr g8 (by omega))
 have kA8 := kA7.out.gr g8 (by omega)
 have G8 := Lib.hid (G7.out.trans g8)
 have X8 := Lib.hid (X7.out.gr g8 fun g hg => by omega)
 have HP8 := Lib.hid h8
 clear h7 h8 g8
 obtain ⟨hlu, hllu, qu0, qu1, qu2, qu3, qu4, qu5, qu6, qu7, zu0, zu1, zu2, zu3, zu4, zu5, zu6, zu7⟩ := bf8 kA8; (try simp at qu0 qu1 qu2 qu3 qu4 qu5 qu6 qu7); have HkA8 := Lib.hid kA8; clear kA8
 go_wp2_with fail
 refine (KM.out _ _ _ _ (HP8.out.step (by (repeat' first | (with_reducible first | exact .refl _ _ | assumption | apply balloc | apply Below.drew | apply bset | refine bstep ?_ ‹_› | refine bturn ?_ ‹_› ?_) | go_size)))).mono ?_
 rintro e w9 ⟨rfl, h9, g9⟩
 have KK := Lib.hid ((Blk.new w8 33 #[.int .i64 o, .int .i64 k, .int .i64 n, .int .i64 s, .string y2, .int .i64 m, .string r2, .slice B l cc]).gr g9 (by omega))
 have X9 := Lib.hid ((X8.out.step (balloc (Below.refl _ _) _)).gr g9 fun g hg => by omega)
 have k9 := (K8.out.alloc _).gr g9 (by omega)
 have G9 := Lib.hid ((G8.out.alloc _).trans g9)
 clear qu0 qu1 qu2 qu3 qu4 qu5 qu6 qu7 zu0 zu1 zu2 zu3 zu4 zu5 zu6 zu7 hlu hllu
 go_wp2_with (refine wpList_store_blk k9 rfl _ _ _ (by rfl) _ (by rfl) (by rfl) (by repeat first | with_reducible first | exact k9 | apply Blk.alloc | apply Blk.drew | refine Blk.far ?_ (by simp <;> omega) _ | refine Blk.turn ?_ ‹_› (by omega)) (by rfl) (by kernel_rfl) (by simp [Value.oneCell']) ?_; intro wt k9n ht)
 refine ret_blk rfl k9n rfl Tryz.underlying33 rfl (by kernel_rfl) rfl ?_
 exact ⟨⟨_, rfl, (XM.one (KK.out.turn ht (by omega)) rfl (show w.heap.size + 1 ≤ w8.heap.size by omega) ((X9.out.turn ht fun g hg => by omega).mono fun g hg _ => hg.1) 1).mono fun g hg _ => by omega⟩, H.out.turnF HR.out.symm h9 ht (Nat.le_refl _), Gr.turnFar G9.out ht (Nat.le_refl _)⟩
end Go.Proofs.YtapilekangmcoaaGreatDoor
namespace Go.Proofs.YtapilekangmcoaaGreatDoor
open Go.RowKit
theorem set5 {w : World} {g : Nat} {T : TypeId} {a0 a1 a2 a3 a4 a5 a6 a7 : Value} (h : Blk w g T #[a0, a1, a2, a3, a4, a5, a6, a7]) (b1 b2 b3 b4 b5 : Value) : Blk (((((w.setCell ⟨g, 1, none⟩ b1).setCell ⟨g, 2, none⟩ b2).setCell ⟨g, 3, none⟩ b3).setCell ⟨g, 4, none⟩ b4).setCell ⟨g, 5, none⟩ b5) g T #[a0, b1, b2, b3, b4, b5, a6, a7] ∧ Turned w (((((w.setCell ⟨g, 1, none⟩ b1).setCell ⟨g, 2, none⟩ b2).setCell ⟨g, 3, none⟩ b3).setCell ⟨g, 4, none⟩ b4).setCell ⟨g, 5, none⟩ b5) g := by
 refine ⟨?_, ?_⟩
 · have := ((((h.set_ 1 b1).set_ 2 b2).set_ 3 b3).set_ 4 b4).set_ 5 b5
   simpa using this
 · exact ((((Turned.setCell _ _ _ _).trans (Turned.setCell _ _ _ _)).trans (Turned.setCell _ _ _ _)).trans (Turned.setCell _ _ _ _)).trans (Turned.setCell _ _ _ _)
theorem ccellsV_eq {k n s m : Int} {t : Bs} {q : ByteArray} (h : bs t = q) : cellsV ⟨k, n, s, t, m⟩ = #[.int .i64 k, .int .i64 n, .int .i64 s, .string q, .int .i64 m] := by subst h; rfl
theorem pref_4 (b : Nat) (A : Option Addr) (c : Nat) (p : PS) (vk vn vs vm : Int) (vt : Bs) (d : Nat) (w : World) (h : PB w b A c p) (he : p.e = 0) (hn : p.isS [45] = false) (hn2 : p.isS [40] = false) (hn3 : p.isS bNot = false) (hv : p.val = some ⟨vk, vn, vs, vt, vm⟩) (hm0 : 0 ≤ p.md) (hm1 : p.md ≤ 200000) :
   Calls Tryz.prog 76 #[.pointer (some ⟨b, 0, none⟩), .int .i64 (d : Int)] w fun e w' => EOut b A c w w' (.mk 1 ⟨vk, vn, vs, vt, vm⟩ [] [], p.adv.made) e := by
 have hlw := h.blk.lt
 have k0 : Blk (w.alloc (.cells #[.int .i64 0, .int .i64 0, .int .i64 0, .int .i64 0, .string ⟨#[]⟩, .int .i64 0, .string ⟨#[]⟩, .slice none 0 0] 33)) w.heap.size 33 #[.int .i64 0, .int .i64 0, .int .i64 0, .int .i64 0, .string ⟨#[]⟩, .int .i64 0, .string ⟨#[]⟩, .slice none 0 0] := Blk.new _ _ _
 have hA : Below w.heap.size w (w.alloc (.cells #[.int .i64 0, .int .i64 0, .int .i64 0, .int .i64 0, .string ⟨#[]⟩, .int .i64 0, .string ⟨#[]⟩, .slice none 0 0] 33)) := by (repeat' first | (with_reducible first | exact .refl _ _ | assumption | apply balloc | apply Below.drew | apply bset | refine bstep ?_ ‹_› | refine bturn ?_ ‹_› ?_) | go_size)
 have H1 := Lib.hid (h.step hA)
 have K0 := Lib.hid k0
 have G1 := Lib.hid (Gr.of hA : Gr b w _)
 have HS1 : Hid ((w.alloc (.cells #[.int .i64 0, .int .i64 0, .int .i64 0, .int .i64 0, .string ⟨#[]⟩, .int .i64 0, .string ⟨#[]⟩, .slice none 0 0] 33)).heap.size = w.heap.size + 1) := Lib.hid (by simp)
 have H := Lib.hid h
 have h1 := H1.out
 have KT0 := Lib.hid (fun (W : World) (h : PB W b A c p) => take_any b A c p [45] W h)
 have KT1 := Lib.hid (fun (W : World) (h : PB W b A c p) => take_any b A c p [40] W h)
 have KT2 := Lib.hid (fun (W : World) (h : PB W b A c p) => take_any b A c p bNot W h)
 rw [hn, take_no hn] at KT0
 rw [hn2, take_no hn2] at KT1
 rw [hn3, take_no hn3] at KT2
 have HE := Lib.hid he
 have KV := Lib.hid (fun (W : World) (h : PB W b A c p) => value_any b A c p W h)
 rw [hv] at KV
 have KM := Lib.hid (fun (B : Option Addr) (n cp : Nat) (W : World) (h : PB W b A c p.adv) => emake_any b A c p.adv 1 B n cp W h hm0 hm1)
 have HR : Hid (p.adv.made.L = p.L) := Lib.hid ((made_L _).trans rfl)
 obtain ⟨q, hq⟩ : ∃ q, bs vt = q := ⟨_, rfl⟩
 have hcv : cellsV ⟨vk, vn, vs, vt, vm⟩ = #[.int .i64 vk, .int .i64 vn, .int .i64 vs, .string q, .int .i64 vm] := ccellsV_eq hq
 have KV2 : Hid (∀ W, PB W b A c p → Calls Tryz.prog 119 #[.pointer (some ⟨b, 0, none⟩)] W fun e w' => e = .returned (.tuple #[.agg #[.int .i64 vk, .int .i64 vn, .int .i64 vs, .string q, .int .i64 vm], .bool true]) ∧ PB w' b A c p.adv ∧ Gr b W w') := Lib.hid (fun W h => by rw [← hcv]; exact KV.out W h)
 obtain ⟨pa, hpa⟩ : ∃ q, p.adv = q := ⟨_, rfl⟩
 rw [hpa] at KM HR KV2
 rw [hpa]
 have HQ := Lib.hid hq
 clear h k0 hA hn hn2 hn3 he hv hm0 hm1 hq hcv KV hpa
 go_enter Tryz.func76, Tryz.ntmps76
 go_upto_region 1 with fail
 generalize (w.alloc (.cells #[.int .i64 0, .int .i64 0, .int .i64 0, .int .i64 0, .string ⟨#[]⟩, .int .i64 0, .string ⟨#[]⟩, .slice none 0 0] 33)) = w1 at *
 have hz1 := HS1.out
 have hbp := (h1).blk; obtain ⟨hlp, hllp, qp0, qp1, qp2, qp3, qp4, qp5, zp0, zp1, zp2, zp3, zp4, zp5⟩ := bf6 hbp; (try simp at qp0 qp1 qp2 qp3 qp4 qp5); have Hhbp := Lib.hid hbp; clear hbp
 rw [HE.out] at qp4
 clear h1
 go_wp2_with fail
 refine (KT0.out _ H1.out).mono ?_
 rintro e w2 ⟨rfl, h2, g2⟩
 have hz2 := g2.size
 have K2 := Lib.hid (K0.out.gr g2 (by omega))
 have G2 := Lib.hid (G1.out.trans g2)
 clear qp0 zp0 qp1 zp1 qp2 zp2 qp3 zp3 qp4 zp4 qp5 zp5 hlp hllp Hhbp
 go_wp2_with fail
 refine (KT1.out _ h2).mono ?_
 rintro e w3 ⟨rfl, h3, g3⟩
 have hz3 := g3.size
 have K3 := Lib.hid (K2.out.gr g3 (by omega))
 have G3 := Lib.hid (G2.out.trans g3)
 clear h2
 go_wp2_with fail
 refine (KT2.out _ h3).mono ?_
 rintro e w4 ⟨rfl, h4, g4⟩
 have hz4 := g4.size
 have K4 := Lib.hid (K3.out.gr g4 (by omega))
 have G4 := Lib.hid (G3.out.trans g4)
 clear h3
 clear g2 g3 g4 KT0 KT1 KT2
 go_wp2_with fail
 refine (KV2.out _ h4).mono ?_
 rintro e w5 ⟨rfl, h5, g5⟩
 have hz5 := g5.size
 have K5 := Lib.hid (K4.out.gr g5 (by omega))
 have G5 := Lib.hid (G4.out.trans g5)
 have HP5 := Lib.hid h5
 have kv : Blk (w5.alloc (.cells #[.int .i64 0, .int .i64 0, .int .i64 0, .string ⟨#[]⟩, .int .i64 0] 25)) w5.heap.size 25 #[.int .i64 0, .int .i64 0, .int .i64 0, .string ⟨#[]⟩, .int .i64 0] := Blk.new _ _ _
 clear h4 h5 g5 KV2
 go_upto_region 15 with (refine wpList_store_blk kv rfl _ _ _ (by rfl) _ (by rfl) (by rfl) (by repeat first | with_reducible first | exact kv | apply Blk.alloc | apply Blk.drew | refine Blk.far ?_ (by simp <;> omega) _ | refine Blk.turn ?_ ‹_› (by omega)) (by rfl) (by kernel_rfl) (by simp [Value.oneCell']) ?_; intro wt kvn ht)
 have hb6 : Below w5.heap.size w5 wt := bturn (balloc (Below.refl _ _) _) ht (Nat.le_refl _)
 have K6 := Lib.hid (K5.out.step hb6)
 have KV6 := Lib.hid kvn
 have hz6 : w5.heap.size < wt.heap.size := kvn.lt
 have h6 := HP5.out.step hb6
 have G6 := Lib.hid (G5.out.bstep hb6)
 clear kv kvn HP5 G5 hb6 ht
 go_wp2_with fail
 refine (KM.out _ _ _ _ h6).mono ?_
 rintro e w7 ⟨rfl, h7, g7⟩
 have hz7 := g7.size
 have K7 := Lib.hid (K6.out.gr g7 (by omega))
 have KV7 := Lib.hid (KV6.out.gr g7 (by omega))
 have G7 := Lib.hid (G6.out.trans g7)
 have HP7 := Lib.hid h7
 have kn : Blk (w7.alloc (.cells #[.int .i64 0, .int .i64 0, .int .i64 0, .int .i64 0, .string ⟨#[]⟩, .int .i64 0, .string ⟨#[]⟩, .slice none 0 0] 33)) w7.heap.size 33 #[.int .i64 0, .int .i64 0, .int .i64 0, .int .i64 0, .string ⟨#[]⟩, .int .i64 0, .string ⟨#[]⟩, .slice none 0 0] := Blk.new _ _ _
 clear h6 h7 g7 KM
 go_upto_region 17 with (refine wpList_store_blk kn rfl _ _ _ (by rfl) _ (by rfl) (by rfl) (by repeat first | with_reducible first | exact kn | apply Blk.alloc | apply Blk.drew | refine Blk.far ?_ (by simp <;> omega) _ | refine Blk.turn ?_ ‹_› (by omega)) (by rfl) (by kernel_rfl) (by simp [Value.oneCell']) ?_; intro wt knn ht)
 have hb8 : Below w7.heap.size w7 wt := bturn (balloc (Below.refl _ _) _) ht (Nat.le_refl _)
 have K8 := Lib.hid (K7.out.step hb8)
 have kv8 := KV7.out.step hb8
 have KN8 := Lib.hid knn
 have hz8 : w7.heap.size < wt.heap.size := knn.lt
 have HP8 := Lib.hid (HP7.out.step hb8)
 have G8 := Lib.hid (G7.out.bstep hb8)
 have kn8 := KN8.out
 clear kn knn HP7 G7 hb8 ht
 obtain ⟨hlv, hllv, qv0, qv1, qv2, qv3, qv4, zv0, zv1, zv2, zv3, zv4⟩ := bf5 kv8; (try simp at qv0 qv1 qv2 qv3 qv4); have Hkv8 := Lib.hid kv8; clear kv8
 obtain ⟨hln, hlln, qn0, qn1, qn2, qn3, qn4, qn5, qn6, qn7, zn0, zn1, zn2, zn3, zn4, zn5, zn6, zn7⟩ := bf8 kn8; (try simp at qn0 qn1 qn2 qn3 qn4 qn5 qn6 qn7); have Hkn8 := Lib.hid kn8; clear kn8
 go_upto_region 18 with fail
 obtain ⟨e1, e2⟩ := set5 KN8.out (.int .i64 vk) (.int .i64 vn) (.int .i64 vs) (.string q) (.int .i64 vm)
 clear qv0 qv1 qv2 qv3 qv4 zv0 zv1 zv2 zv3 zv4 hlv hllv qn0 qn1 qn2 qn3 qn4 qn5 qn6 qn7 zn0 zn1 zn2 zn3 zn4 zn5 zn6 zn7 hln hlln
 generalize (((((wt.setCell ⟨w7.heap.size, 1, none⟩ (.int .i64 vk)).setCell ⟨w7.heap.size, 2, none⟩ (.int .i64 vn)).setCell ⟨w7.heap.size, 3, none⟩ (.int .i64 vs)).setCell ⟨w7.heap.size, 4, none⟩ (.string q)).setCell ⟨w7.heap.size, 5, none⟩ (.int .i64 vm)) = w9 at *
 have k9 := K8.out.turn e2 (by omega)
 have h9 : PB w9 b A c pa.made := H.out.turnF HR.out.symm HP8.out e2 (by omega)
 have g9 : Gr b w w9 := Gr.turnFar G8.out e2 (by omega)
 have H9 := Lib.hid h9
 have G9 := Lib.hid g9
 clear h9 g9 e2
 go_wp2_with (first | (refine wpList_load_blk e1 rfl _ _ (by rfl) (by rfl) (by (repeat first | with_reducible first | exact e1 | apply Blk.alloc | apply Blk.drew | refine Blk.far ?_ (by simp <;> omega) _ | refine Blk.turn ?_ ‹_› (by omega))) _ Tryz.underlying33 rfl (by kernel_rfl) ?_) | (refine wpList_store_blk k9 rfl _ _ _ (by rfl) _ (by rfl) (by rfl) (by repeat first | with_reducible first | exact k9 | apply Blk.alloc | apply Blk.drew | refine Blk.far ?_ (by simp <;> omega) _ | refine Blk.turn ?_ ‹_› (by omega)) (by rfl) (by kernel_rfl) (by simp [Value.oneCell']) ?_; intro wt k9n ht))
 refine ret_blk rfl k9n rfl Tryz.underlying33 rfl (by kernel_rfl) rfl ?_
 exact ⟨⟨_, rfl, by rw [← HQ.out]; exact XM.nil none 0⟩, H.out.turnF HR.out.symm H9.out ht (Nat.le_refl _), Gr.turnFar G9.out ht (Nat.le_refl _)⟩
end Go.Proofs.YtapilekangmcoaaGreatDoor
namespace Go.Proofs.YtapilekangmcoaaGreatDoor
open Go.RowKit
theorem pref_6 (b : Nat) (A : Option Addr) (c : Nat) (p : PS) (d : Nat) (w : World) (h : PB w b A c p) (he : p.e = 0) (hn : p.isS [45] = false) (hn2 : p.isS [40] = false) (hn3 : p.isS bNot = false) (hv : p.val = none) (hc : p.L.length ≤ p.nx ∨ ∃ t, p.L[p.nx]? = some t ∧ ¬ t.k = 4) :
   Calls Tryz.prog 76 #[.pointer (some ⟨b, 0, none⟩), .int .i64 (d : Int)] w fun e w' => EOut b A c w w' (zeroE, p.fail 5) e := by
 have hlw := h.blk.lt
 have k0 : Blk (w.alloc (.cells #[.int .i64 0, .int .i64 0, .int .i64 0, .int .i64 0, .string ⟨#[]⟩, .int .i64 0, .string ⟨#[]⟩, .slice none 0 0] 33)) w.heap.size 33 #[.int .i64 0, .int .i64 0, .int .i64 0, .int .i64 0, .string ⟨#[]⟩, .int .i64 0, .string ⟨#[]⟩, .slice none 0 0] := Blk.new _ _ _
 have hA : Below w.heap.size w (w.alloc (.cells #[.int .i64 0, .int .i64 0, .int .i64 0, .int .i64 0, .string ⟨#[]⟩, .int .i64 0, .string ⟨#[]⟩, .slice none 0 0] 33)) := by (repeat' first | (with_reducible first | exact .refl _ _ | assumption | apply balloc | apply Below.drew | apply bset | refine bstep ?_ ‹_› | refine bturn ?_ ‹_› ?_) | go_size)
 have H1 := Lib.hid (h.step hA)
 have K0 := Lib.hid k0
 have G1 := Lib.hid (Gr.of hA : Gr b w _)
 have HS1 : Hid ((w.alloc (.cells #[.int .i64 0, .int .i64 0, .int .i64 0, .int .i64 0, .string ⟨#[]⟩, .int .i64 0, .string ⟨#[]⟩, .slice none 0 0] 33)).heap.size = w.heap.size + 1) := Lib.hid (by simp)
 have H := Lib.hid h
 have h1 := H1.out
 have KT0 := Lib.hid (fun (W : World) (h : PB W b A c p) => take_any b A c p [45] W h)
 have KT1 := Lib.hid (fun (W : World) (h : PB W b A c p) => take_any b A c p [40] W h)
 have KT2 := Lib.hid (fun (W : World) (h : PB W b A c p) => take_any b A c p bNot W h)
 rw [hn, take_no hn] at KT0
 rw [hn2, take_no hn2] at KT1
 rw [hn3, take_no hn3] at KT2
 have HE := Lib.hid he
 have KV := Lib.hid (fun (W : World) (h : PB W b A c p) => value_any b A c p W h)
 rw [hv] at KV
 have KV2 : Hid (∀ W, PB W b A c p → Calls Tryz.prog 119 #[.pointer (some ⟨b, 0, none⟩)] W fun e w' => e = .returned (.tuple #[.agg #[.int .i64 0, .int .i64 0, .int .i64 0, .string ⟨#[]⟩, .int .i64 0], .bool false]) ∧ PB w' b A c p ∧ Gr b W w') := Lib.hid (fun W h => KV.out W h)
 have KF := Lib.hid (fun (W : World) (h : PB W b A c p) => fail_any b A c p 5 W h)
 clear h k0 hA hn hn2 hn3 he hv KV
 rcases hc with hc | ⟨t, ht, hk⟩
 · have hni : decide (p.nx < p.L.length) = false := decide_eq_false (by omega)
   go_enter Tryz.func76, Tryz.ntmps76
   go_upto_region 1 with fail
   generalize (w.alloc (.cells #[.int .i64 0, .int .i64 0, .int .i64 0, .int .i64 0, .string ⟨#[]⟩, .int .i64 0, .string ⟨#[]⟩, .slice none 0 0] 33)) = w1 at *
   have hz1 := HS1.out
   have hbp := (h1).blk; obtain ⟨hlp, hllp, qp0, qp1, qp2, qp3, qp4, qp5, zp0, zp1, zp2, zp3, zp4, zp5⟩ := bf6 hbp; (try simp at qp0 qp1 qp2 qp3 qp4 qp5); have Hhbp := Lib.hid hbp; clear hbp
   rw [HE.out] at qp4
   clear h1
   go_wp2_with fail
   refine (KT0.out _ H1.out).mono ?_
   rintro e w2 ⟨rfl, h2, g2⟩
   have hz2 := g2.size
   have K2 := Lib.hid (K0.out.gr g2 (by omega))
   have G2 := Lib.hid (G1.out.trans g2)
   clear qp0 zp0 qp1 zp1 qp2 zp2 qp3 zp3 qp4 zp4 qp5 zp5 hlp hllp Hhbp
   go_wp2_with fail
   refine (KT1.out _ h2).mono ?_
   rintro e w3 ⟨rfl, h3, g3⟩
   have hz3 := g3.size
   have K3 := Lib.hid (K2.out.gr g3 (by omega))
   have G3 := Lib.hid (G2.out.trans g3)
   clear h2
   go_wp2_with fail
   refine (KT2.out _ h3).mono ?_
   rintro e w4 ⟨rfl, h4, g4⟩
   have hz4 := g4.size
   have K4 := Lib.hid (K3.out.gr g4 (by omega))
   have G4 := Lib.hid (G3.out.trans g4)
   clear h3
   clear g2 g3 g4 KT0 KT1 KT2
   go_wp2_with fail
   refine (KV2.out _ h4).mono ?_
   rintro e w5 ⟨rfl, h5, g5⟩
   have hz5 := g5.size
   have K5 := Lib.hid (K4.out.gr g5 (by omega))
   have G5 := Lib.hid (G4.out.trans g5)
   have HP5 := Lib.hid h5
   have kv : Blk (w5.alloc (.cells #[.int .i64 0, .int .i64 0, .int .i64 0, .string ⟨#[]⟩, .int .i64 0] 25)) w5.heap.size 25 #[.int .i64 0, .int .i64 0, .int .i64 0, .string ⟨#[]⟩, .int .i64 0] := Blk.new _ _ _
   clear h4 h5 g5 KV2
   go_upto_region 19 with (refine wpList_store_blk kv rfl _ _ _ (by rfl) _ (by rfl) (by rfl) (by repeat first | with_reducible first | exact kv | apply Blk.alloc | apply Blk.drew | refine Blk.far ?_ (by simp <;> omega) _ | refine Blk.turn ?_ ‹_› (by omega)) (by rfl) (by kernel_rfl) (by simp [Value.oneCell']) ?_; intro wt kvn ht)
   have hb6 : Below w5.heap.size w5 wt := bturn (balloc (Below.refl _ _) _) ht (Nat.le_refl _)
   have K6 := Lib.hid (K5.out.step hb6)
   have hz6 : w5.heap.size < wt.heap.size := kvn.lt
   have h6 := HP5.out.step hb6
   have H6 := Lib.hid h6
   have G6 := Lib.hid (G5.out.bstep hb6)
   clear kv kvn HP5 G5 hb6 ht
   have hbr := (h6).blk; obtain ⟨hlr, hllr, qr0, qr1, qr2, qr3, qr4, qr5, zr0, zr1, zr2, zr3, zr4, zr5⟩ := bf6 hbr; (try simp at qr0 qr1 qr2 qr3 qr4 qr5); have Hhbr := Lib.hid hbr; clear hbr
   rw [HE.out] at qr4
   clear h6
   go_cut [99] (fun z wx => z = .bool false ∧ Below wt.heap.size wt wx)
   case first =>
     go_quiet (fail)
     go_wp2_with fail
     go_meet
     case rel => exact ⟨rfl, by (repeat' first | (with_reducible first | apply bdrewN | exact .refl _ _ | assumption | apply balloc | apply Below.drew | apply bset | refine bstep ?_ ‹_› | refine bturn ?_ ‹_› ?_) | go_size)⟩
   case rest =>
     obtain ⟨rfl, hb7⟩ := hcut
     clear qr0 zr0 qr1 zr1 qr2 zr2 qr3 zr3 qr4 zr4 qr5 zr5 hlr hllr Hhbr
     go_upto_region 24 with fail
     have H7 := Lib.hid (H6.out.step hb7)
     have K7 := Lib.hid (K6.out.step hb7)
     have G7 := Lib.hid (G6.out.bstep hb7)
     have hz7 := hb7.size
     clear H6 K6 G6 hb7
     go_wp2_with fail
     refine (KF.out _ H7.out).mono ?_
     rintro e w8 ⟨rfl, h8, g8⟩
     have k8 := K7.out.gr g8 (by omega)
     have H8 := Lib.hid h8
     have G8 := Lib.hid (G7.out.trans g8)
     clear h8 g8
     go_wp2_with (refine wpList_store_blk k8 rfl _ _ _ (by rfl) _ (by rfl) (by rfl) (by repeat first | with_reducible first | exact k8 | apply Blk.alloc | apply Blk.drew | refine Blk.far ?_ (by simp <;> omega) _ | refine Blk.turn ?_ ‹_› (by omega)) (by rfl) (by kernel_rfl) (by simp [Value.oneCell']) ?_; intro wt k8n ht)
     refine ret_blk rfl k8n rfl Tryz.underlying33 rfl (by kernel_rfl) rfl ?_
     exact ⟨⟨_, rfl, zero_xm⟩, H.out.turnF (fail_L _ _).symm H8.out ht (Nat.le_refl _), Gr.turnFar G8.out ht (Nat.le_refl _)⟩
 · have HT := Lib.hid ht
   have hnl : p.nx < p.L.length := (List.getElem?_eq_some_iff.1 ht).1
   have hni : (p.nx : Int) < (p.L.length : Int) := by omega
   have hnd : decide (p.nx < p.L.length) = true := decide_eq_true hnl
   have hkd : decide (t.k = 4) = false := decide_eq_false hk
   have hkb : (t.k == 4) = false := by simpa using hk
   obtain ⟨tk, hkk⟩ : ∃ z, t.k = z := ⟨_, rfl⟩
   rw [hkk] at hkb hkd
   have HKK := Lib.hid hkk
   clear ht hk hkk
   go_enter Tryz.func76, Tryz.ntmps76
   go_upto_region 1 with fail
   generalize (w.alloc (.cells #[.int .i64 0, .int .i64 0, .int .i64 0, .int .i64 0, .string ⟨#[]⟩, .int .i64 0, .string ⟨#[]⟩, .slice none 0 0] 33)) = w1 at *
   have hz1 := HS1.out
   have hbp := (h1).blk; obtain ⟨hlp, hllp, qp0, qp1, qp2, qp3, qp4, qp5, zp0, zp1, zp2, zp3, zp4, zp5⟩ := bf6 hbp; (try simp at qp0 qp1 qp2 qp3 qp4 qp5); have Hhbp := Lib.hid hbp; clear hbp
   rw [HE.out] at qp4
   clear h1
   go_wp2_with fail
   refine (KT0.out _ H1.out).mono ?_
   rintro e w2 ⟨rfl, h2, g2⟩
   have hz2 := g2.size
   have K2 := Lib.hid (K0.out.gr g2 (by omega))
   have G2 := Lib.hid (G1.out.trans g2)
   clear qp0 zp0 qp1 zp1 qp2 zp2 qp3 zp3 qp4 zp4 qp5 zp5 hlp hllp Hhbp
   go_wp2_with fail
   refine (KT1.out _ h2).mono ?_
   rintro e w3 ⟨rfl, h3, g3⟩
   have hz3 := g3.size
   have K3 := Lib.hid (K2.out.gr g3 (by omega))
   have G3 := Lib.hid (G2.out.trans g3)
   clear h2
   go_wp2_with fail
   refine (KT2.out _ h3).mono ?_
   rintro e w4 ⟨rfl, h4, g4⟩
   have hz4 := g4.size
   have K4 := Lib.hid (K3.out.gr g4 (by omega))
   have G4 := Lib.hid (G3.out.trans g4)
   clear h3
   clear g2 g3 g4 KT0 KT1 KT2
   go_wp2_with fail
   refine (KV2.out _ h4).mono ?_
   rintro e w5 ⟨rfl, h5, g5⟩
   have hz5 := g5.size
   have K5 := Lib.hid (K4.out.gr g5 (by omega))
   have G5 := Lib.hid (G4.out.trans g5)
   have HP5 := Lib.hid h5
   have kv : Blk (w5.alloc (.cells #[.int .i64 0, .int .i64 0, .int .i64 0, .string ⟨#[]⟩, .int .i64 0] 25)) w5.heap.size 25 #[.int .i64 0, .int .i64 0, .int .i64 0, .string ⟨#[]⟩, .int .i64 0] := Blk.new _ _ _
   clear h4 h5 g5 KV2
   go_upto_region 19 with (refine wpList_store_blk kv rfl _ _ _ (by rfl) _ (by rfl) (by rfl) (by repeat first | with_reducible first | exact kv | apply Blk.alloc | apply Blk.drew | refine Blk.far ?_ (by simp <;> omega) _ | refine Blk.turn ?_ ‹_› (by omega)) (by rfl) (by kernel_rfl) (by simp [Value.oneCell']) ?_; intro wt kvn ht)
   have hb6 : Below w5.heap.size w5 wt := bturn (balloc (Below.refl _ _) _) ht (Nat.le_refl _)
   have K6 := Lib.hid (K5.out.step hb6)
   have hz6 : w5.heap.size < wt.heap.size := kvn.lt
   have h6 := HP5.out.step hb6
   have H6 := Lib.hid h6
   have G6 := Lib.hid (G5.out.bstep hb6)
   clear kv kvn HP5 G5 hb6 ht
   obtain ⟨g, f, rfl, c0, c1, c2, c3, c4, c5⟩ := tm_get h6.tm HT.out
   rw [HKK.out] at c0
   clear c1 c2 c3 c4 c5
   have hbr := (h6).blk; obtain ⟨hlr, hllr, qr0, qr1, qr2, qr3, qr4, qr5, zr0, zr1, zr2, zr3, zr4, zr5⟩ := bf6 hbr; (try simp at qr0 qr1 qr2 qr3 qr4 qr5); have Hhbr := Lib.hid hbr; clear hbr
   rw [HE.out] at qr4
   clear h6
   go_cut [99] (fun z wx => z = .bool false ∧ Below wt.heap.size wt wx)
   case first =>
     go_quiet (fail)
     go_wp2_with fail
     go_meet
     case rel => exact ⟨rfl, by (repeat' first | (with_reducible first | apply bdrewN | exact .refl _ _ | assumption | apply balloc | apply Below.drew | apply bset | refine bstep ?_ ‹_› | refine bturn ?_ ‹_› ?_) | go_size)⟩
   case rest =>
     obtain ⟨rfl, hb7⟩ := hcut
     clear qr0 zr0 qr1 zr1 qr2 zr2 qr3 zr3 qr4 zr4 qr5 zr5 hlr hllr Hhbr
     clear c0
     go_upto_region 24 with fail
     have H7 := Lib.hid (H6.out.step hb7)
     have K7 := Lib.hid (K6.out.step hb7)
     have G7 := Lib.hid (G6.out.bstep hb7)
     have hz7 := hb7.size
     clear H6 K6 G6 hb7
     go_wp2_with fail
     refine (KF.out _ H7.out).mono ?_
     rintro e w8 ⟨rfl, h8, g8⟩
     have k8 := K7.out.gr g8 (by omega)
     have H8 := Lib.hid h8
     have G8 := Lib.hid (G7.out.trans g8)
     clear h8 g8
     go_wp2_with (refine wpList_store_blk k8 rfl _ _ _ (by rfl) _ (by rfl) (by rfl) (by repeat first | with_reducible first | exact k8 | apply Blk.alloc | apply Blk.drew | refine Blk.far ?_ (by simp <;> omega) _ | refine Blk.turn ?_ ‹_› (by omega)) (by rfl) (by kernel_rfl) (by simp [Value.oneCell']) ?_; intro wt k8n ht)
     refine ret_blk rfl k8n rfl Tryz.underlying33 rfl (by kernel_rfl) rfl ?_
     exact ⟨⟨_, rfl, zero_xm⟩, H.out.turnF (fail_L _ _).symm H8.out ht (Nat.le_refl _), Gr.turnFar G8.out ht (Nat.le_refl _)⟩
end Go.Proofs.YtapilekangmcoaaGreatDoor
namespace Go.Proofs.YtapilekangmcoaaGreatDoor
open Go.RowKit
/-- The kids of an expression in w0. -/
structure KD (w0 : World) (A : Option Addr) (L : List Ex) : Prop where
 n : (L.length : Int) ≤ 9223372036854775807
 get : ∀ (k : Nat) (y : Ex), L[k]? = some y → ∃ (g b : Nat) (o ek en s : Int) (q : ByteArray) (m : Int) (r : ByteArray) (B : Option Addr) (l c : Nat), A = some ⟨g, b, none⟩ ∧ XM (fun _ => True) w0 y #[.int .i64 o, .int .i64 ek, .int .i64 en, .int .i64 s, .string q, .int .i64 m, .string r, .slice B l c] ∧
   w0.cell? ⟨g, b + k * 8, none⟩ = some (.int .i64 o) ∧ w0.cell? ⟨g, b + k * 8 + 1, none⟩ = some (.int .i64 ek) ∧ w0.cell? ⟨g, b + k * 8 + 2, none⟩ = some (.int .i64 en) ∧ w0.cell? ⟨g, b + k * 8 + 3, none⟩ = some (.int .i64 s) ∧
   w0.cell? ⟨g, b + k * 8 + 4, none⟩ = some (.string q) ∧ w0.cell? ⟨g, b + k * 8 + 5, none⟩ = some (.int .i64 m) ∧ w0.cell? ⟨g, b + k * 8 + 6, none⟩ = some (.string r) ∧ w0.cell? ⟨g, b + k * 8 + 7, none⟩ = some (.slice B l c)
theorem XM.kd {w0 : World} {x : Ex} {cs : Array Value} (h : XM (fun _ => True) w0 x cs) : ∃ (A : Option Addr) (c : Nat), cs = #[.int .i64 x.op, .int .i64 x.v.k, .int .i64 x.v.n, .int .i64 x.v.s, .string (bs x.v.t), .int .i64 x.v.m, .string (bs x.nm), .slice A x.kids.length c] ∧ KD w0 A x.kids := by
 obtain ⟨A, c, f, rfl, hn, hk, hc⟩ := h.inv
 refine ⟨A, c, rfl, by unfold maxLen at hn; omega, fun k y hy => ?_⟩
 have hxm := hk k y hy
 obtain ⟨g, b, e, _, hj⟩ := hc k y hy
 obtain ⟨B, c', hcs⟩ := hxm.get
 rw [hcs] at hxm hj
 exact ⟨g, b, _, _, _, _, _, _, _, _, _, _, e, hxm, hj 0 _ rfl, hj 1 _ rfl, hj 2 _ rfl, hj 3 _ rfl, hj 4 _ rfl, hj 5 _ rfl, hj 6 _ rfl, hj 7 _ rfl⟩
theorem hasL_at {n : Bs} {L : List Ex} {k : Nat} {x : Ex} (hx : L[k]? = some x) : hasL n (L.drop k) = if hasE n x = true then true else hasL n (L.drop (k + 1)) := by
 obtain ⟨hk, rfl⟩ := List.getElem?_eq_some_iff.1 hx
 rw [List.drop_eq_getElem_cons hk, hasL]
def HasC (w0 : World) (n : Bs) (x : Ex) : Prop := ∀ (cs : Array Value) (w : World), XM (fun _ => True) w0 x cs → Below w0.heap.size w0 w →
 Calls Tryz.prog 16 #[.agg cs, .string (bs n)] w fun e w' => e = .returned (.bool (hasE n x)) ∧ Below w.heap.size w w'
theorem has_node (o vk vn vs vm : Int) (q r t : ByteArray) (A : Option Addr) (c : Nat) (L : List Ex) (n : Bs) (ht : bs n = t) (w0 w : World) (hk : KD w0 A L) (hb : Below w0.heap.size w0 w) (e1 : Bool) (he1 : (r.toList == t.toList) = e1) (hK : ∀ k ∈ L, HasC w0 n k) :
   Calls Tryz.prog 16 #[.agg #[.int .i64 o, .int .i64 vk, .int .i64 vn, .int .i64 vs, .string q, .int .i64 vm, .string r, .slice A L.length c], .string t] w fun e w' => e = .returned (.bool (if o = 2 ∧ e1 = true then true else hasL n L)) ∧ Below w.heap.size w w' := by
 have HK := Lib.hid hk
 have HKK := Lib.hid hK
 have HB := Lib.hid hb
 have HT := Lib.hid ht
 have hn := hk.n
 have k0 : Blk (w.alloc (.cells #[.int .i64 o, .int .i64 vk, .int .i64 vn, .int .i64 vs, .string q, .int .i64 vm, .string r, .slice A L.length c] 33)) w.heap.size 33 #[.int .i64 o, .int .i64 vk, .int .i64 vn, .int .i64 vs, .string q, .int .i64 vm, .string r, .slice A L.length c] := Blk.new _ _ _
 clear hk hK hb ht
 obtain ⟨R, hR⟩ : ∃ R, hasL n L = R := ⟨_, rfl⟩
 have HR : Hid (hasL n (L.drop 0) = R) := Lib.hid hR
 by_cases hc : o = 2 ∧ e1 = true
 · obtain ⟨rfl, rfl⟩ := hc
   clear HR hR k0
   go_enter Tryz.func16, Tryz.ntmps16
   go_wp2_with fail
   go_returns
   exact ⟨by simp, by (repeat' first | (with_reducible first | exact .refl _ _ | assumption | apply balloc | apply Below.drew | apply bset | refine bstep ?_ ‹_› | refine bturn ?_ ‹_› ?_) | go_size)⟩
 · rw [if_neg hc, hR]
   clear hR
   have HC := Lib.hid hc
   by_cases h2 : o = 2
   · obtain rfl : e1 = false := by cases e1 with | false => rfl | true => exact absurd ⟨h2, rfl⟩ hc
     subst h2
     clear hc
     go_enter Tryz.func16, Tryz.ntmps16
     go_wp2_with fail
     go_loopw [5] (fun i wr => ∃ k : Nat, k ≤ L.length ∧ i = .int .i64 (k : Int) ∧ Below w.heap.size w wr ∧ Blk wr w.heap.size 33 #[.int .i64 2, .int .i64 vk, .int .i64 vn, .int .i64 vs, .string q, .int .i64 vm, .string r, .slice A L.length c] ∧ Hid (hasL n (L.drop k) = R)) (fun i _ => L.length - (intOf i).toNat)
     case atStart => exact ⟨0, by omega, rfl, by (repeat' first | (with_reducible first | exact .refl _ _ | assumption | apply balloc | apply Below.drew | apply bset | refine bstep ?_ ‹_› | refine bturn ?_ ‹_› ?_) | go_size), k0, HR⟩
     case round =>
       obtain ⟨k, hkk, rfl, hb, kx, HQ⟩ := hrel
       have hb0 : Below w0.heap.size w0 wr := HB.out.trans (hb.mono (by have := HB.out.size; omega))
       have KX := Lib.hid kx
       clear k0
       by_cases hlt : k < L.length
       · obtain ⟨x, hx⟩ : ∃ x, L[k]? = some x := ⟨L[k], List.getElem?_eq_getElem hlt⟩
         have hki : (k : Int) < (L.length : Int) := by omega
         have hkn : IntKind.i64.wrap ((k : Int) + 1) = ((k + 1 : Nat) : Int) := by rw [IntWalk.i64_in _ (by omega)]; omega
         obtain ⟨g, off, ko, kk', kn, ks, kq, km, kr, kB, kl, kc, rfl, hxm, q0, q1, q2, q3, q4, q5, q6, q7⟩ := HK.out.get k x hx
         replace q0 := keep1 hb0 q0
         replace q1 := keep1 hb0 q1
         replace q2 := keep1 hb0 q2
         replace q3 := keep1 hb0 q3
         replace q4 := keep1 hb0 q4
         replace q5 := keep1 hb0 q5
         replace q6 := keep1 hb0 q6
         replace q7 := keep1 hb0 q7
         have KC := Lib.hid (HKK.out x (List.mem_of_getElem? hx) _ wr hxm hb0)
         have hq := HQ.out
         rw [hasL_at hx] at hq
         rw [HT.out] at KC
         obtain ⟨b, hbb⟩ : ∃ b, hasE n x = b := ⟨_, rfl⟩
         rw [hbb] at KC hq
         have HQ2 := Lib.hid hq
         clear hx hxm hq hbb HQ
         obtain ⟨hlx, hllx, qx0, qx1, qx2, qx3, qx4, qx5, qx6, qx7, zx0, zx1, zx2, zx3, zx4, zx5, zx6, zx7⟩ := bf8 kx; (try simp at qx0 qx1 qx2 qx3 qx4 qx5 qx6 qx7); have Hkx := Lib.hid kx; clear kx
         go_wp2_with fail
         refine (KC.out).mono ?_
         rintro e w2 ⟨rfl, hb2⟩
         clear q0 q1 q2 q3 q4 q5 q6 q7 qx0 qx1 qx2 qx3 qx4 qx5 qx6 qx7 zx0 zx1 zx2 zx3 zx4 zx5 zx6 zx7 hlx hllx
         cases b with
         | true =>
           go_wp2_with fail
           go_returns
           exact ⟨by rw [← HQ2.out]; simp, by (repeat' first | (with_reducible first | exact .refl _ _ | assumption | apply balloc | apply Below.drew | apply bset | refine bstep ?_ ‹_› | refine bturn ?_ ‹_› ?_) | go_size)⟩
         | false =>
           have hq := HQ2.out
           rw [if_neg (by decide)] at hq
           have HQ3 := Lib.hid hq
           clear hq
           go_wp2_with fail
           go_roundw
           case rel => exact ⟨k + 1, by omega, by go_num, by (repeat' first | (with_reducible first | exact .refl _ _ | assumption | apply balloc | apply Below.drew | apply bset | refine bstep ?_ ‹_› | refine bturn ?_ ‹_› ?_) | go_size), KX.out.step hb2, HQ3⟩
           case measure => simp [intOf]; omega
       · obtain rfl : k = L.length := by omega
         have hq := HQ.out
         rw [List.drop_length, hasL] at hq
         have HQ3 := Lib.hid hq
         clear hlt HQ hq
         obtain ⟨hlx, hllx, qx0, qx1, qx2, qx3, qx4, qx5, qx6, qx7, zx0, zx1, zx2, zx3, zx4, zx5, zx6, zx7⟩ := bf8 kx; (try simp at qx0 qx1 qx2 qx3 qx4 qx5 qx6 qx7); have Hkx := Lib.hid kx; clear kx
         go_wp2_with fail
         go_returns
         exact ⟨by rw [← HQ3.out]; rfl, hb⟩
   · have h2b : (o == 2) = false := by simpa using h2
     clear hc
     go_enter Tryz.func16, Tryz.ntmps16
     go_wp2_with fail
     go_loopw [5] (fun i wr => ∃ k : Nat, k ≤ L.length ∧ i = .int .i64 (k : Int) ∧ Below w.heap.size w wr ∧ Blk wr w.heap.size 33 #[.int .i64 o, .int .i64 vk, .int .i64 vn, .int .i64 vs, .string q, .int .i64 vm, .string r, .slice A L.length c] ∧ Hid (hasL n (L.drop k) = R)) (fun i _ => L.length - (intOf i).toNat)
     case atStart => exact ⟨0, by omega, rfl, by (repeat' first | (with_reducible first | exact .refl _ _ | assumption | apply balloc | apply Below.drew | apply bset | refine bstep ?_ ‹_› | refine bturn ?_ ‹_› ?_) | go_size), k0, HR⟩
     case round =>
       obtain ⟨k, hkk, rfl, hb, kx, HQ⟩ := hrel
       have hb0 : Below w0.heap.size w0 wr := HB.out.trans (hb.mono (by have := HB.out.size; omega))
       have KX := Lib.hid kx
       clear k0
       by_cases hlt : k < L.length
       · obtain ⟨x, hx⟩ : ∃ x, L[k]? = some x := ⟨L[k], List.getElem?_eq_getElem hlt⟩
         have hki : (k : Int) < (L.length : Int) := by omega
         have hkn : IntKind.i64.wrap ((k : Int) + 1) = ((k + 1 : Nat) : Int) := by rw [IntWalk.i64_in _ (by omega)]; omega
         obtain ⟨g, off, ko, kk', kn, ks, kq, km, kr, kB, kl, kc, rfl, hxm, q0, q1, q2, q3, q4, q5, q6, q7⟩ := HK.out.get k x hx
         replace q0 := keep1 hb0 q0
         replace q1 := keep1 hb0 q1
         replace q2 := keep1 hb0 q2
         replace q3 := keep1 hb0 q3
         replace q4 := keep1 hb0 q4
         replace q5 := keep1 hb0 q5
         replace q6 := keep1 hb0 q6
         replace q7 := keep1 hb0 q7
         have KC := Lib.hid (HKK.out x (List.mem_of_getElem? hx) _ wr hxm hb0)
         have hq := HQ.out
         rw [hasL_at hx] at hq
         rw [HT.out] at KC
         obtain ⟨b, hbb⟩ : ∃ b, hasE n x = b := ⟨_, rfl⟩
         rw [hbb] at KC hq
         have HQ2 := Lib.hid hq
         clear hx hxm hq hbb HQ
         obtain ⟨hlx, hllx, qx0, qx1, qx2, qx3, qx4, qx5, qx6, qx7, zx0, zx1, zx2, zx3, zx4, zx5, zx6, zx7⟩ := bf8 kx; (try simp at qx0 qx1 qx2 qx3 qx4 qx5 qx6 qx7); have Hkx := Lib.hid kx; clear kx
         go_wp2_with fail
         refine (KC.out).mono ?_
         rintro e w2 ⟨rfl, hb2⟩
         clear q0 q1 q2 q3 q4 q5 q6 q7 qx0 qx1 qx2 qx3 qx4 qx5 qx6 qx7 zx0 zx1 zx2 zx3 zx4 zx5 zx6 zx7 hlx hllx
         cases b with
         | true =>
           go_wp2_with fail
           go_returns
           exact ⟨by rw [← HQ2.out]; simp, by (repeat' first | (with_reducible first | exact .refl _ _ | assumption | apply balloc | apply Below.drew | apply bset | refine bstep ?_ ‹_› | refine bturn ?_ ‹_› ?_) | go_size)⟩
         | false =>
           have hq := HQ2.out
           rw [if_neg (by decide)] at hq
           have HQ3 := Lib.hid hq
           clear hq
           go_wp2_with fail
           go_roundw
           case rel => exact ⟨k + 1, by omega, by go_num, by (repeat' first | (with_reducible first | exact .refl _ _ | assumption | apply balloc | apply Below.drew | apply bset | refine bstep ?_ ‹_› | refine bturn ?_ ‹_› ?_) | go_size), KX.out.step hb2, HQ3⟩
           case measure => simp [intOf]; omega
       · obtain rfl : k = L.length := by omega
         have hq := HQ.out
         rw [List.drop_length, hasL] at hq
         have HQ3 := Lib.hid hq
         clear hlt HQ hq
         obtain ⟨hlx, hllx, qx0, qx1, qx2, qx3, qx4, qx5, qx6, qx7, zx0, zx1, zx2, zx3, zx4, zx5, zx6, zx7⟩ := bf8 kx; (try simp at qx0 qx1 qx2 qx3 qx4 qx5 qx6 qx7); have Hkx := Lib.hid kx; clear kx
         go_wp2_with fail
         go_returns
         exact ⟨by rw [← HQ3.out]; rfl, hb⟩
theorem has_all (w0 : World) (n : Bs) : ∀ x, HasC w0 n x := by
 intro x
 induction x using ex_ind with
 | h o v s kids ih =>
   intro cs w hx hb
   obtain ⟨A, c, rfl, hk⟩ := hx.kd
   refine (has_node o v.k v.n v.s v.m (bs v.t) (bs s) (bs n) A c kids n rfl w0 w hk hb _ rfl fun k hkm => ih k hkm).mono ?_
   rintro e w' ⟨rfl, h⟩
   refine ⟨?_, h⟩
   rw [hasE, bs_toList, bs_toList]
   congr 2
   simp
end Go.Proofs.YtapilekangmcoaaGreatDoor
namespace Go.Proofs.YtapilekangmcoaaGreatDoor
open Go.RowKit
theorem bigL_at {L : List Ex} {k : Nat} {x : Ex} {d : Nat} {l : Int} (hx : L[k]? = some x) : bigL (L.drop k) d l = if 0 ≤ l then bigL (L.drop (k + 1)) d (bigS x d l) else l := by
 obtain ⟨hk, rfl⟩ := List.getElem?_eq_some_iff.1 hx
 rw [List.drop_eq_getElem_cons hk, bigL]
theorem big_bd : ∀ (x : Ex) (d : Nat) (l : Int), 0 ≤ l → -1 ≤ bigS x d l ∧ bigS x d l ≤ l := by
 intro x
 induction x using ex_ind with
 | h o v s kids ih =>
   intro d l hl
   rw [bigS]
   split
   · omega
   · have : ∀ (K : List Ex), (∀ k ∈ K, k ∈ kids) → ∀ l : Int, -1 ≤ l → -1 ≤ bigL K (d + 1) l ∧ bigL K (d + 1) l ≤ l := by
       intro K
       induction K with
       | nil => intro _ l hl; rw [bigL]; omega
       | cons k K ihK =>
         intro hK l hl
         rw [bigL]
         split
         · rename_i h0
           have h1 := ih k (hK k (by simp)) (d + 1) l h0
           have h2 := ihK (fun k hk => hK k (by simp [hk])) _ h1.1
           omega
         · omega
     have := this kids (fun k h => h) (l - 1) (by omega)
     omega
def BigC8 (w0 : World) (x : Ex) : Prop := ∀ (cs : Array Value) (d : Nat) (l : Int) (w : World), XM (fun _ => True) w0 x cs → Below w0.heap.size w0 w → d ≤ 81 → 0 ≤ l → l ≤ 1000 →
 Calls Tryz.prog 12 #[.agg cs, .int .i64 (d : Int), .int .i64 l] w fun e w' => e = .returned (.int .i64 (bigS x d l)) ∧ Below w.heap.size w w'
theorem big8_node (o vk vn vs vm : Int) (q r : ByteArray) (A : Option Addr) (c : Nat) (L : List Ex) (d d1 : Nat) (l l1 : Int) (w0 w : World) (hk : KD w0 A L) (hb : Below w0.heap.size w0 w) (hd1 : d1 = d + 1) (hd : d ≤ 81) (hl1 : l1 = l - 1) (hl0 : 0 ≤ l) (hl : l ≤ 1000) (hK : ∀ k ∈ L, BigC8 w0 k) :
   Calls Tryz.prog 12 #[.agg #[.int .i64 o, .int .i64 vk, .int .i64 vn, .int .i64 vs, .string q, .int .i64 vm, .string r, .slice A L.length c], .int .i64 (d : Int), .int .i64 l] w fun e w' => e = .returned (.int .i64 (if 80 < d then -1 else bigL L d1 l1)) ∧ Below w.heap.size w w' := by
 have HK := Lib.hid hk
 have HKK := Lib.hid hK
 have HB := Lib.hid hb
 have hn := hk.n
 have hlw : IntKind.i64.wrap (l - 1) = l1 := by rw [IntWalk.i64_in _ (by omega)]; exact hl1.symm
 have hdw : IntKind.i64.wrap ((d : Int) + 1) = (d1 : Int) := by rw [IntWalk.i64_in _ (by omega)]; omega
 have k0 : Blk (w.alloc (.cells #[.int .i64 o, .int .i64 vk, .int .i64 vn, .int .i64 vs, .string q, .int .i64 vm, .string r, .slice A L.length c] 33)) w.heap.size 33 #[.int .i64 o, .int .i64 vk, .int .i64 vn, .int .i64 vs, .string q, .int .i64 vm, .string r, .slice A L.length c] := Blk.new _ _ _
 by_cases hc : 80 < d
 · rw [if_pos hc]
   have hci : (80 : Int) < (d : Int) := by omega
   clear hk hK hb k0 hc
   go_enter Tryz.func12, Tryz.ntmps12
   go_wp2_with fail
   go_returns
   exact ⟨rfl, by (repeat' first | (with_reducible first | exact .refl _ _ | assumption | apply balloc | apply Below.drew | apply bset | refine bstep ?_ ‹_› | refine bturn ?_ ‹_› ?_) | go_size)⟩
 · rw [if_neg hc]
   obtain ⟨R, hR⟩ : ∃ R, bigL L d1 l1 = R := ⟨_, rfl⟩
   have HR : Hid (bigL L d1 l1 = R ∧ -1 ≤ l1 ∧ l1 ≤ 1000 ∧ d1 ≤ 81) := Lib.hid ⟨hR, by omega, by omega, by omega⟩
   rw [hR]
   have hci : ¬ (80 : Int) < (d : Int) := by omega
   clear hk hK hb hR hc hl1 hl0 hl hd hd1
   go_enter Tryz.func12, Tryz.ntmps12
   go_wp2_with fail
   go_loopw [7, 2] (fun i lv wr => ∃ (k : Nat) (lk : Int), k ≤ L.length ∧ i = .int .i64 (k : Int) ∧ lv = .int .i64 lk ∧ Below w.heap.size w wr ∧ Blk wr w.heap.size 33 #[.int .i64 o, .int .i64 vk, .int .i64 vn, .int .i64 vs, .string q, .int .i64 vm, .string r, .slice A L.length c] ∧ Hid (bigL (L.drop k) d1 lk = R ∧ -1 ≤ lk ∧ lk ≤ 1000)) (fun i _ _ => L.length - (intOf i).toNat)
   case atStart => exact ⟨0, l1, by omega, rfl, rfl, by (repeat' first | (with_reducible first | exact .refl _ _ | assumption | apply balloc | apply Below.drew | apply bset | refine bstep ?_ ‹_› | refine bturn ?_ ‹_› ?_) | go_size), k0, Lib.hid ⟨HR.out.1, HR.out.2.1, HR.out.2.2.1⟩⟩
   case round =>
     obtain ⟨k, lk, hkk, rfl, rfl, hb, kx, HQ⟩ := hrel
     have hb0 : Below w0.heap.size w0 wr := HB.out.trans (hb.mono (by have := HB.out.size; omega))
     have KX := Lib.hid kx
     clear k0
     by_cases hlt : k < L.length
     · obtain ⟨x, hx⟩ : ∃ x, L[k]? = some x := ⟨L[k], List.getElem?_eq_getElem hlt⟩
       have hki : (k : Int) < (L.length : Int) := by omega
       by_cases h0 : 0 ≤ lk
       · have hkn : IntKind.i64.wrap ((k : Int) + 1) = ((k + 1 : Nat) : Int) := by rw [IntWalk.i64_in _ (by omega)]; omega
         obtain ⟨g, off, ko, kk', kn, ks, kq, km, kr, kB, kl, kc, rfl, hxm, q0, q1, q2, q3, q4, q5, q6, q7⟩ := HK.out.get k x hx
         replace q0 := keep1 hb0 q0
         replace q1 := keep1 hb0 q1
         replace q2 := keep1 hb0 q2
         replace q3 := keep1 hb0 q3
         replace q4 := keep1 hb0 q4
         replace q5 := keep1 hb0 q5
         replace q6 := keep1 hb0 q6
         replace q7 := keep1 hb0 q7
         have KC := Lib.hid (HKK.out x (List.mem_of_getElem? hx) _ d1 lk wr hxm hb0 HR.out.2.2.2 h0 HQ.out.2.2)
         have hq := HQ.out.1
         rw [bigL_at hx, if_pos h0] at hq
         obtain ⟨b, hbb⟩ : ∃ b, bigS x d1 lk = b := ⟨_, rfl⟩
         have hbd := big_bd x d1 lk h0
         rw [hbb] at KC hq hbd
         have HQ2 : Hid (bigL (L.drop (k + 1)) d1 b = R ∧ -1 ≤ b ∧ b ≤ 1000) := Lib.hid ⟨hq, hbd.1, by have := HQ.out.2.2; omega⟩
         clear hx hxm hq hbb HQ hbd
         obtain ⟨hlx, hllx, qx0, qx1, qx2, qx3, qx4, qx5, qx6, qx7, zx0, zx1, zx2, zx3, zx4, zx5, zx6, zx7⟩ := bf8 kx; (try simp at qx0 qx1 qx2 qx3 qx4 qx5 qx6 qx7); have Hkx := Lib.hid kx; clear kx
         go_wp2_with fail
         refine (KC.out).mono ?_
         rintro e w2 ⟨rfl, hb2⟩
         clear q0 q1 q2 q3 q4 q5 q6 q7 qx0 qx1 qx2 qx3 qx4 qx5 qx6 qx7 zx0 zx1 zx2 zx3 zx4 zx5 zx6 zx7 hlx hllx
         go_wp2_with fail
         go_roundw
         case rel => exact ⟨k + 1, b, by omega, by go_num, rfl, by (repeat' first | (with_reducible first | exact .refl _ _ | assumption | apply balloc | apply Below.drew | apply bset | refine bstep ?_ ‹_› | refine bturn ?_ ‹_› ?_) | go_size), KX.out.step hb2, HQ2⟩
         case measure => simp [intOf]; omega
       · have hq := HQ.out.1
         rw [bigL_at hx, if_neg h0] at hq
         have HQ3 := Lib.hid hq
         clear HQ hq hx
         obtain ⟨hlx, hllx, qx0, qx1, qx2, qx3, qx4, qx5, qx6, qx7, zx0, zx1, zx2, zx3, zx4, zx5, zx6, zx7⟩ := bf8 kx; (try simp at qx0 qx1 qx2 qx3 qx4 qx5 qx6 qx7); have Hkx := Lib.hid kx; clear kx
         go_wp2_with fail
         go_returns
         exact ⟨by rw [← HQ3.out]; rfl, hb⟩
     · obtain rfl : k = L.length := by omega
       have hq := HQ.out.1
       rw [List.drop_length, bigL] at hq
       have HQ3 := Lib.hid hq
       clear hlt HQ hq
       obtain ⟨hlx, hllx, qx0, qx1, qx2, qx3, qx4, qx5, qx6, qx7, zx0, zx1, zx2, zx3, zx4, zx5, zx6, zx7⟩ := bf8 kx; (try simp at qx0 qx1 qx2 qx3 qx4 qx5 qx6 qx7); have Hkx := Lib.hid kx; clear kx
       go_wp2_with fail
       go_returns
       exact ⟨by rw [← HQ3.out]; rfl, hb⟩
theorem big8_all (w0 : World) : ∀ x, BigC8 w0 x := by
 intro x
 induction x using ex_ind with
 | h o v s kids ih =>
   intro cs d l w hx hb hd hl0 hl
   obtain ⟨A, c, rfl, hk⟩ := hx.kd
   have := big8_node o v.k v.n v.s v.m (bs v.t) (bs s) A c kids d (d + 1) l (l - 1) w0 w hk hb rfl hd rfl hl0 hl fun k hkm => ih k hkm
   rw [bigS]
   exact this
end Go.Proofs.YtapilekangmcoaaGreatDoor
namespace Go.Proofs.YtapilekangmcoaaGreatDoor
open Go.RowKit
attribute [local go_sem high] run_vl_eql run_vl_neq
def vEq (v u : Vl) : Bool := v.k == u.k && (v.n == u.n && (v.s == u.s && (v.t == u.t && v.m == u.m)))
theorem vEq_iff {v u : Vl} : vEq v u = true ↔ v = u := by
 obtain ⟨a, b, c, d, e⟩ := v
 obtain ⟨a', b', c', d', e'⟩ := u
 simp [vEq]
end Go.Proofs.YtapilekangmcoaaGreatDoor
namespace Go.Proofs.YtapilekangmcoaaGreatDoor
open Go.Proofs.YtapilekangmcoaaGreatDoor.Dq
open Classical in
/-- May it be a value? -/
noncomputable def sd (v : Vl) : Bool := decide (vSound v)
theorem sd_iff (v : Vl) : sd v = true ↔ vSound v := by
 classical
 unfold sd
 exact decide_eq_true_iff
/-- A truth. -/
def truV (b : Bool) : Vl := ⟨3, 0, 0, [], if b then 1 else 0⟩
theorem vEq_self (v : Vl) : vEq v v = true := vEq_iff.2 rfl
theorem vEq_no {v u : Vl} (h : ¬ v = u) : vEq v u = false := by
 cases hb : vEq v u with
 | false => rfl
 | true => exact absurd (vEq_iff.1 hb) h
theorem tru_ne : ¬ truV true = truV false := by
 intro h
 injection h with _ _ _ _ h
 exact absurd h (by decide)
theorem tru_zero (b : Bool) : ¬ truV b = zeroV := by
 intro h
 injection h with h
 exact absurd h (by decide)
/-- How texts stand. -/
def cmpT (a b : Bs) : Int := if a < b then -1 else if b < a then 1 else 0
/-- How two values stand. -/
def ordC (a b : Vl) : Int :=
 if a.k = b.k then
   if a.k = 1 then cmpS (unitsS a.n a.s) (unitsS b.n b.s)
   else if cmpT a.t b.t = 0 then cmpS a.m b.m else cmpT a.t b.t
 else cmpS a.k b.k
noncomputable def eqC (a b : Vl) : Vl := if (sd a && sd b) = true then (if a.k = 0 ∨ b.k = 0 ∨ a.k = b.k then truV (vEq a b) else zeroV) else zeroV
noncomputable def lessC (a b : Vl) : Vl := if (sd a && sd b) = true ∧ a.k = b.k ∧ ¬ a.k = 0 ∧ ¬ a.k = 3 then truV (decide (ordC a b < 0)) else zeroV
/-! What comes out may be a value. -/
/-! It hangs on the names in it alone. -/
/-! Which of two is less. -/
theorem units_inj {n s n2 s2 : Int} (h1 : soundS n s = true) (h2 : soundS n2 s2 = true) (h : unitsS n s = unitsS n2 s2) : n = n2 ∧ s = s2 := by
 have e1 := dec_units h1
 have e2 := dec_units h2
 rw [h, e2] at e1
 injection e1 with e1 e3
 exact ⟨e1.symm, e3.symm⟩
theorem cmpT_zero {a b : Bs} (h : cmpT a b = 0) : a = b := by
 unfold cmpT at h
 split at h
 · cases h
 · rename_i h1
   split at h
   · cases h
   · rename_i h2
     exact List.le_antisymm (List.not_lt.1 h2) (List.not_lt.1 h1)
theorem cmpT_turn (a b : Bs) : cmpT b a = -cmpT a b := by
 unfold cmpT
 by_cases h1 : a < b
 · have h2 : ¬ b < a := List.lt_asymm h1
   rw [if_neg h2, if_pos h1, if_pos h1]
   rfl
 · by_cases h2 : b < a
   · rw [if_pos h2, if_neg h1, if_pos h2]
   · rw [if_neg h1, if_neg h2, if_neg h2, if_neg h1]
     rfl
theorem cmpS_turn (a b : Int) : cmpS b a = -cmpS a b := by unfold cmpS; (repeat' split) <;> omega
theorem cmpS_zero {a b : Int} (h : cmpS a b = 0) : a = b := by
 unfold cmpS at h
 split at h
 · omega
 · split at h <;> omega
theorem ord_turn (a b : Vl) : ordC b a = -ordC a b := by
 unfold ordC
 by_cases h : a.k = b.k
 · rw [if_pos h, if_pos h.symm]
   by_cases h1 : a.k = 1
   · rw [if_pos h1, if_pos (by omega), cmpS_turn]
   · rw [if_neg h1, if_neg (by omega)]
     have e := cmpT_turn a.t b.t
     by_cases h2 : cmpT a.t b.t = 0
     · rw [if_pos h2, if_pos (by omega), cmpS_turn]
     · rw [if_neg h2, if_neg (by omega), e]
 · rw [if_neg h, if_neg (fun e => h e.symm), cmpS_turn]
theorem ord_self (a : Vl) : ordC a a = 0 := by have := ord_turn a a; omega
/-- Two of one kind that stand alike are one. -/
theorem ord_zero {a b : Vl} (ha : vSound a) (hb : vSound b) (hk : a.k = b.k) (h0 : ¬ a.k = 0) (h : ordC a b = 0) : a = b := by
 obtain ⟨ak, an, as_, at_, am⟩ := a
 obtain ⟨bk, bn, bs_, bt, bm⟩ := b
 unfold ordC at h
 simp only at hk h0 h ha hb
 subst hk
 rw [if_pos rfl] at h
 unfold vSound at ha hb
 simp only at ha hb
 by_cases h1 : ak = 1
 · subst h1
   rw [if_pos rfl] at h
   have e := cmpS_zero h
   rcases ha with ha | ha | ha | ha | ha
   case inr.inl =>
     rcases hb with hb | hb | hb | hb | hb
     case inr.inl =>
       obtain ⟨rfl, rfl⟩ := units_inj ha.2.1 hb.2.1 e
       rw [ha.2.2.1, ha.2.2.2, hb.2.2.1, hb.2.2.2]
     all_goals exact absurd hb.1 (by decide)
   all_goals exact absurd ha.1 (by decide)
 · rw [if_neg h1] at h
   have hn : an = bn ∧ as_ = bs_ := by
     have a0 : an = 0 ∧ as_ = 0 := by
       rcases ha with ha | ha | ha | ha | ha
       · exact absurd ha.1 h0
       · exact absurd ha.1 h1
       all_goals exact ⟨ha.2.1, ha.2.2.1⟩
     have b0 : bn = 0 ∧ bs_ = 0 := by
       rcases hb with hb | hb | hb | hb | hb
       · exact absurd hb.1 h0
       · exact absurd hb.1 h1
       all_goals exact ⟨hb.2.1, hb.2.2.1⟩
     rw [a0.1, a0.2, b0.1, b0.2]
     exact ⟨rfl, rfl⟩
   obtain ⟨rfl, rfl⟩ := hn
   by_cases h2 : cmpT at_ bt = 0
   · rw [if_pos h2] at h
     rw [cmpT_zero h2, cmpS_zero h]
   · rw [if_neg h2] at h
     exact absurd h h2
/-- How many of three are true. -/
noncomputable def trues (a b c : Vl) : Nat := (if vEq a (truV true) = true then 1 else 0) + (if vEq b (truV true) = true then 1 else 0) + (if vEq c (truV true) = true then 1 else 0)
theorem vEq_tru (b : Bool) : vEq (truV b) (truV true) = b := by
 cases b with
 | true => exact vEq_self _
 | false => exact vEq_no fun e => tru_ne e.symm
theorem vEq_ztru : vEq zeroV (truV true) = false := vEq_no fun e => tru_zero true e.symm
/-- Of two numbers, texts or days just one of three holds; of others the values do not tell. -/
theorem three (a b : Vl) : (¬ (sd a && sd b) = true → trues (lessC a b) (eqC a b) (lessC b a) = 0) ∧
   ((sd a && sd b) = true → (a.k = b.k ∧ ¬ a.k = 3 ∧ ¬ a.k = 0 → trues (lessC a b) (eqC a b) (lessC b a) = 1) ∧
     (¬ (a.k = b.k ∧ ¬ a.k = 3 ∧ ¬ a.k = 0) → trues (lessC a b) (eqC a b) (lessC b a) ≤ 1 ∧ (trues (lessC a b) (eqC a b) (lessC b a) = 1 ↔ a = b))) := by
 refine ⟨fun h => ?_, fun h => ⟨fun ⟨h1, h2, h3⟩ => ?_, fun h1 => ?_⟩⟩
 · have h' : ¬ (sd b && sd a) = true := by rw [Bool.and_comm]; exact h
   have e1 : lessC a b = zeroV := by unfold lessC; rw [if_neg fun g => h g.1]
   have e2 : eqC a b = zeroV := by unfold eqC; rw [if_neg h]
   have e3 : lessC b a = zeroV := by unfold lessC; rw [if_neg fun g => h' g.1]
   unfold trues
   rw [e1, e2, e3, vEq_ztru]
   rfl
 · have h' : (sd b && sd a) = true := by rw [Bool.and_comm]; exact h
   have e1 : lessC a b = truV (decide (ordC a b < 0)) := by unfold lessC; rw [if_pos ⟨h, h1, h3, h2⟩]
   have e2 : eqC a b = truV (vEq a b) := by unfold eqC; rw [if_pos h, if_pos (.inr (.inr h1))]
   have e3 : lessC b a = truV (decide (ordC b a < 0)) := by unfold lessC; rw [if_pos ⟨h', h1.symm, by omega, by omega⟩]
   rw [Bool.and_eq_true] at h
   unfold trues
   rw [e1, e2, e3, vEq_tru, vEq_tru, vEq_tru]
   have ht := ord_turn a b
   by_cases he : ordC a b = 0
   · obtain rfl := ord_zero ((sd_iff a).1 h.1) ((sd_iff b).1 h.2) h1 h3 he
     rw [vEq_self, decide_eq_false (by omega)]
     rfl
   · rw [vEq_no fun e => by subst e; exact he (ord_self a)]
     by_cases hl : ordC a b < 0
     · rw [decide_eq_true hl, decide_eq_false (by omega)]
       rfl
     · rw [decide_eq_false hl, decide_eq_true (by omega)]
       rfl
 · have e1 : lessC a b = zeroV := by unfold lessC; rw [if_neg fun g => h1 ⟨g.2.1, g.2.2.2, g.2.2.1⟩]
   have e2 : lessC b a = zeroV := by unfold lessC; rw [if_neg fun g => h1 ⟨g.2.1.symm, by have := g.2; omega, by have := g.2; omega⟩]
   have e3 : trues (lessC a b) (eqC a b) (lessC b a) = if vEq (eqC a b) (truV true) = true then 1 else 0 := by
     unfold trues
     rw [e1, e2, vEq_ztru]
     simp
   rw [e3]
   by_cases hc : a.k = 0 ∨ b.k = 0 ∨ a.k = b.k
   · have e4 : eqC a b = truV (vEq a b) := by unfold eqC; rw [if_pos h, if_pos hc]
     rw [e4, vEq_tru]
     by_cases he : a = b
     · subst he
       rw [vEq_self]
       simp
     · rw [vEq_no he]
       simp [he]
   · have e4 : eqC a b = zeroV := by unfold eqC; rw [if_pos h, if_neg hc]
     have he : ¬ a = b := fun e => hc (.inr (.inr (by rw [e])))
     rw [e4, vEq_ztru]
     simp [he]
end Go.Proofs.YtapilekangmcoaaGreatDoor
