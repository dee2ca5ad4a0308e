/- What expr.Parser's Expr, chain and prefix read, for every text. The walk of expr.Parse, for every text. What every law of package expr calls: awake. The walk of value.Text at a sound value. The walks of expr.write at a value, a name, a minus and a not. The walks of expr.write, kind by kind. Printed by genwr.py. Expressions that came in as an argument: how they read. -/
import Derived.Test.YtapilekangmcoaaGreatDoorN24
import Derived.Test.YtapilekangmcoaaGreatDoorN23
import Derived.Test.YtapilekangmcoaaGreatDoorN25
import Derived.Test.YtapilekangmcoaaGreatDoorN26
import Derived.Test.YtapilekangmcoaaGreatDoorN22
import Derived.Test.YtapilekangmcoaaGreatDoorN8
import Derived.Test.YtapilekangmcoaaGreatDoorN9
import Derived.Deep.QuietTactic
import Derived.BigQuiet
import Derived.Test.YtapilekangmcoaaGreatDoorN4
set_option linter.unusedVariables false
set_option linter.unusedSimpArgs false
set_option maxHeartbeats 8000000
set_option maxRecDepth 100000
namespace Go.Proofs.YtapilekangmcoaaGreatDoor
open Go.RowKit
theorem md_bd {p : PS} {c : Int} {k : Nat} (h : Rm c k p) (hc : 0 ≤ c) : 0 ≤ p.md ∧ p.md ≤ 200000 := ⟨h.lo, by have := h.md; have := h.le; have := h.big; omega⟩
theorem expr_all (f : Nat) (HE : ExprC f) (HC : ChainC f) : ExprC (f + 1) := by
 intro b A c p d k w h hR hf hd
 by_cases hd64 : 64 < d
 · obtain ⟨e1, e2⟩ := deep_hi (p := p) hd64
   have hE : exprF wordB (f + 1) p d = chainF wordB f (p.fail 9) d 0 := by
     rw [expr_else (by rw [e1]; exact fun h => e2 h.1), e1]
   rw [hE]
   exact expr_1 b A c p (p.fail 9) _ d w h (.inl ⟨hd64, rfl⟩) (((fw_all wordB f).2.1 (p.fail 9) d 0).L.trans (fail_L _ _)) (Lib.hid fun W hW => HC b A c (p.fail 9) d 0 k W hW (hR.fail 9) (by omega) (by omega) hd)
 · have e1 := deep_lo (p := p) hd64
   by_cases he : p.e = 0
   · cases hi : p.isS bIf with
     | false =>
       have hE : exprF wordB (f + 1) p d = chainF wordB f p d 0 := by
         rw [expr_else (by rw [e1, hi]; exact fun h => Bool.noConfusion h.2), e1]
       rw [hE]
       exact expr_1 b A c p p _ d w h (.inr (.inr ⟨hd64, he, hi, rfl⟩)) ((fw_all wordB f).2.1 p d 0).L (Lib.hid fun W hW => HC b A c p d 0 k W hW hR (by omega) (by omega) hd)
     | true =>
       have hn := (isS_ltw hi).1
       have hk := hR.pos hn
       have R1 : Rm 1 (k - 1) p.adv := hR.adv hn
       have R2 : Rm 1 (k - 1) (exprF wordB f p.adv d).2 := R1.expr f d
       have R3 := R2.need bThen
       have R4 : Rm 1 (k - 1) (exprF wordB f ((exprF wordB f p.adv d).2.need bThen) d).2 := R3.expr f d
       have R5 := R4.need bElse
       have R6 : Rm 1 (k - 1) (exprF wordB f ((exprF wordB f ((exprF wordB f p.adv d).2.need bThen) d).2.need bElse) d).2 := R5.expr f d
       obtain ⟨m0, m1⟩ := md_bd R6 (by decide)
       have hL : (exprF wordB f ((exprF wordB f ((exprF wordB f p.adv d).2.need bThen) d).2.need bElse) d).2.L = p.L := by
         rw [((fw_all wordB f).1 _ d).L, need_L, ((fw_all wordB f).1 _ d).L, need_L, ((fw_all wordB f).1 _ d).L]
         rfl
       have hE : exprF wordB (f + 1) p d = (.mk 17 zeroV [] [(exprF wordB f p.adv d).1, (exprF wordB f ((exprF wordB f p.adv d).2.need bThen) d).1, (exprF wordB f ((exprF wordB f ((exprF wordB f p.adv d).2.need bThen) d).2.need bElse) d).1], (exprF wordB f ((exprF wordB f ((exprF wordB f p.adv d).2.need bThen) d).2.need bElse) d).2.made) := by
         rw [exprF, e1, if_pos ⟨he, hi⟩]
       rw [hE]
       exact expr_2 b A c p _ _ _ _ _ _ _ _ _ d w h hd64 he hi rfl rfl rfl m0 m1 hL
         (Lib.hid fun W hW => HE b A c p.adv d (k - 1) W hW R1.less (by omega) (by omega))
         (Lib.hid fun W hW => HE b A c _ d (k - 1) W hW R3.less (by omega) (by omega))
         (Lib.hid fun W hW => HE b A c _ d (k - 1) W hW R5.less (by omega) (by omega))
   · have hE : exprF wordB (f + 1) p d = chainF wordB f p d 0 := by
       rw [expr_else (by rw [e1]; exact fun h => he h.1), e1]
     rw [hE]
     exact expr_1 b A c p p _ d w h (.inr (.inl ⟨hd64, he, rfl⟩)) ((fw_all wordB f).2.1 p d 0).L (Lib.hid fun W hW => HC b A c p d 0 k W hW hR (by omega) (by omega) hd)
theorem chain_all (f : Nat) (HP : PrefC f) (HC : Hid (∀ j, j ≤ f → ChainC j)) : ChainC (f + 1) := by
 intro b A c p d n k w h hR hn hf hd
 by_cases h5 : n = 5
 · subst h5
   have hE : chainF wordB (f + 1) p d 5 = prefixF wordB f p d := by rw [chainF, if_pos (by decide)]
   rw [hE]
   exact chain_5 b A c p _ d w h ((fw_all wordB f).2.2.2 p d).L (Lib.hid fun W hW => HP b A c p d k W hW hR (by omega) hd)
 · exact chain_lo f HC b A c p d n (n + 1) k w h hR (by omega) rfl (by omega) hd
theorem pref_all (f : Nat) (HE : ExprC f) (HP : PrefC f) : PrefC (f + 1) := by
 intro b A c p d k w h hR hf hd
 by_cases he : p.e = 0
 · cases h1 : p.isS [45] with
   | true =>
     have hn := (isS_ltw h1).1
     have hk := hR.pos hn
     have R1 : Rm 1 (k - 1) p.adv := hR.adv hn
     have R2 : Rm 1 (k - 1) (prefixF wordB f p.adv d).2 := R1.prefix_ f d
     obtain ⟨m0, m1⟩ := md_bd R2 (by decide)
     have hE : prefixF wordB (f + 1) p d = (.mk 3 zeroV [] [(prefixF wordB f p.adv d).1], (prefixF wordB f p.adv d).2.made) := by
       rw [prefixF, if_pos he, if_pos h1]
     rw [hE]
     exact pref_1 b A c p p.adv _ _ d w h he h1 rfl m0 m1 ((fw_all wordB f).2.2.2 p.adv d).L (Lib.hid fun W hW => HP b A c p.adv d (k - 1) W hW R1.less (by omega) (by omega))
   | false =>
     cases h2 : p.isS [40] with
     | true =>
       have hn := (isS_ltw h2).1
       have hk := hR.pos hn
       have R1 : Rm 1 (k - 1) p.adv := hR.adv hn
       have hE : prefixF wordB (f + 1) p d = ((exprF wordB f p.adv (d + 1)).1, (exprF wordB f p.adv (d + 1)).2.need [41]) := by
         rw [prefixF, if_pos he, if_neg (by rw [h1]; decide), if_pos h2]
       rw [hE]
       exact pref_2 b A c p p.adv _ _ _ d (d + 1) w h he h1 h2 rfl rfl ((fw_all wordB f).1 p.adv (d + 1)).L (by omega) rfl (Lib.hid fun W hW => HE b A c p.adv (d + 1) (k - 1) W hW R1.less (by omega) (by omega))
     | false =>
       cases h3 : p.isS bNot with
       | true =>
         have hn := (isS_ltw h3).1
         have hk := hR.pos hn
         have R1 : Rm 1 (k - 1) p.adv := hR.adv hn
         have R2 := R1.need [40]
         have R3 : Rm 1 (k - 1) (exprF wordB f (p.adv.need [40]) (d + 1)).2 := R2.expr f (d + 1)
         have R4 := R3.need [41]
         obtain ⟨m0, m1⟩ := md_bd R4 (by decide)
         have hE : prefixF wordB (f + 1) p d = (.mk 16 zeroV [] [(exprF wordB f (p.adv.need [40]) (d + 1)).1], ((exprF wordB f (p.adv.need [40]) (d + 1)).2.need [41]).made) := by
           rw [prefixF, if_pos he, if_neg (by rw [h1]; decide), if_neg (by rw [h2]; decide), if_pos h3]
         rw [hE]
         exact pref_3 b A c p p.adv _ _ _ _ d (d + 1) w h he h1 h2 h3 rfl rfl rfl (((fw_all wordB f).1 _ (d + 1)).L.trans (need_L _ _)) (by omega) rfl m0 m1 (Lib.hid fun W hW => HE b A c _ (d + 1) (k - 1) W hW R2.less (by omega) (by omega))
       | false =>
         obtain ⟨m0, m1⟩ := md_bd hR (by decide)
         cases hv : p.val with
         | some v =>
           obtain ⟨vk, vn, vs, vt, vm⟩ := v
           have hE : prefixF wordB (f + 1) p d = (.mk 1 ⟨vk, vn, vs, vt, vm⟩ [] [], p.adv.made) := by
             rw [prefixF, if_pos he, if_neg (by rw [h1]; decide), if_neg (by rw [h2]; decide), if_neg (by rw [h3]; decide), hv]
           rw [hE]
           exact pref_4 b A c p vk vn vs vm vt d w h he h1 h2 h3 hv m0 m1
         | none =>
           cases ht : p.L[p.nx]? with
           | none =>
             have hE : prefixF wordB (f + 1) p d = (zeroE, p.fail 5) := by
               rw [prefixF, if_pos he, if_neg (by rw [h1]; decide), if_neg (by rw [h2]; decide), if_neg (by rw [h3]; decide), hv]
               dsimp only
               rw [ht]
             rw [hE]
             exact pref_6 b A c p d w h he h1 h2 h3 hv (.inl (List.getElem?_eq_none_iff.1 ht))
           | some t =>
             by_cases hk : t.k = 4
             · cases hw : wordB t.t with
               | true =>
                 have hE : prefixF wordB (f + 1) p d = (.mk 2 zeroV t.t [], p.made.adv) := by
                   rw [prefixF, if_pos he, if_neg (by rw [h1]; decide), if_neg (by rw [h2]; decide), if_neg (by rw [h3]; decide), hv]
                   dsimp only
                   rw [ht]
                   dsimp only
                   rw [if_pos ⟨hk, hw⟩]
                 rw [hE]
                 exact pref_5 b A c p t d w h he h1 h2 h3 hv ht hk hw m0 m1
               | false =>
                 have hE : prefixF wordB (f + 1) p d = (zeroE, p.fail 5) := by
                   rw [prefixF, if_pos he, if_neg (by rw [h1]; decide), if_neg (by rw [h2]; decide), if_neg (by rw [h3]; decide), hv]
                   dsimp only
                   rw [ht]
                   dsimp only
                   rw [if_neg (by rw [hw]; exact fun h => Bool.noConfusion h.2)]
                 rw [hE]
                 exact pref_6w b A c p t d w h he h1 h2 h3 hv ht hk hw
             · have hE : prefixF wordB (f + 1) p d = (zeroE, p.fail 5) := by
                 rw [prefixF, if_pos he, if_neg (by rw [h1]; decide), if_neg (by rw [h2]; decide), if_neg (by rw [h3]; decide), hv]
                 dsimp only
                 rw [ht]
                 dsimp only
                 rw [if_neg (fun h => hk h.1)]
               rw [hE]
               exact pref_6 b A c p d w h he h1 h2 h3 hv (.inr ⟨t, ht, hk⟩)
 · have hE : prefixF wordB (f + 1) p d = (zeroE, p) := by rw [prefixF, if_neg he]
   rw [hE]
   exact pref_0 b A c p d w h he
theorem reads_all : ∀ f, ∀ j, j ≤ f → ExprC j ∧ ChainC j ∧ PrefC j
 | 0 => fun j hj => by
   obtain rfl : j = 0 := by omega
   exact ⟨fun b A c p d k w h hR hf hd => absurd hf (by omega), fun b A c p d n k w h hR hn hf hd => absurd hf (by omega), fun b A c p d k w h hR hf hd => absurd hf (by omega)⟩
 | f + 1 => fun j hj => by
   have ih := reads_all f
   by_cases h : j ≤ f
   · exact ih j h
   · obtain rfl : j = f + 1 := by omega
     obtain ⟨hE, hC, hP⟩ := ih f (Nat.le_refl _)
     exact ⟨expr_all f hE hC, chain_all f hP (Lib.hid fun j hj => (ih j hj).2.1), pref_all f hE hP⟩
end Go.Proofs.YtapilekangmcoaaGreatDoor
namespace Go.Proofs.YtapilekangmcoaaGreatDoor
open Go.RowKit
theorem EV.leaf {o : Int} {v : Vl} {s : Bs} (hv : VOk v) : EV (.mk o v s []) := .mk o v s [] hv (fun k h => by cases h)
theorem zero_vok : VOk zeroV := vs_ok zero_sound
theorem ev_zero : EV zeroE := EV.leaf zero_vok
theorem ev_1 {o : Int} {a : Ex} (ha : EV a) : EV (.mk o zeroV [] [a]) := .mk _ _ _ _ zero_vok fun k h => by simp at h; rw [h]; exact ha
theorem ev_2 {o : Int} {a b : Ex} (ha : EV a) (hb : EV b) : EV (.mk o zeroV [] [a, b]) := .mk _ _ _ _ zero_vok fun k h => by
 simp at h
 rcases h with rfl | rfl
 · exact ha
 · exact hb
theorem ev_3 {o : Int} {a b c : Ex} (ha : EV a) (hb : EV b) (hc : EV c) : EV (.mk o zeroV [] [a, b, c]) := .mk _ _ _ _ zero_vok fun k h => by
 simp at h
 rcases h with rfl | rfl | rfl
 · exact ha
 · exact hb
 · exact hc
theorem ev_all (W : Bs → Bool) (N : Nat) : ∀ f,
   (∀ (p : PS) (d : Nat), POK N p → EV (exprF W f p d).1) ∧
   (∀ (p : PS) (d n : Nat), POK N p → EV (chainF W f p d n).1) ∧
   (∀ (x : Ex) (p : PS) (d n : Nat), EV x → POK N p → EV (moreF W f x p d n).1) ∧
   (∀ (p : PS) (d : Nat), POK N p → EV (prefixF W f p d).1)
 | 0 => by
   refine ⟨fun p d h => ?_, fun p d n h => ?_, fun x p d n hx h => ?_, fun p d h => ?_⟩
   · unfold exprF; exact ev_zero
   · unfold chainF; exact ev_zero
   · unfold moreF; exact hx
   · unfold prefixF; exact ev_zero
 | f + 1 => by
   obtain ⟨hE, hC, hM, hP⟩ := ev_all W N f
   obtain ⟨gE, gC, gM, gP⟩ := pok_all W N f
   refine ⟨fun p d h => ?_, fun p d n h => ?_, fun x p d n hx h => ?_, fun p d h => ?_⟩
   · unfold exprF
     split
     · have h1 := (h.deep d).adv
       have h2 := (gE _ d h1).need bThen
       have h3 := (gE _ d h2).need bElse
       exact ev_3 (hE _ d h1) (hE _ d h2) (hE _ d h3)
     · exact hC _ d 0 (h.deep d)
   · unfold chainF
     split
     · exact hP p d h
     · exact hM _ _ d n (hC p d (n + 1) h) (gC p d (n + 1) h)
   · unfold moreF
     split
     · split
       · exact hx
       · dsimp only
         split
         · exact ev_2 hx (hC _ d (n + 1) h.adv)
         · exact hM _ _ d n (ev_2 hx (hC _ d (n + 1) h.adv)) (gC _ d (n + 1) h.adv).made
     · exact hx
   · unfold prefixF
     split
     · split
       · exact ev_1 (hP _ d h.adv)
       · split
         · exact hE _ (d + 1) h.adv
         · split
           · exact ev_1 (hE _ (d + 1) (h.adv.need [40]))
           · split
             · rename_i v hv
               exact EV.leaf (vs_ok (val_vs h hv))
             · split
               · exact ev_zero
               · split
                 · exact EV.leaf zero_vok
                 · exact ev_zero
     · exact ev_zero
/-- How Parse ends. -/
def EPOut (w w' : World) (r : Ex × Int × Int) (e : Ending) : Prop := ∃ cs, e = .returned (.tuple #[.agg cs, .int .i64 r.2.1, .int .i64 r.2.2]) ∧ XM (fun g => w.heap.size ≤ g) w' r.1 cs
theorem eparse_walk (s : ByteArray) (p0 q : PS) (x : Ex) (ok : Bool) (m : Int) (w : World) (hw : OKW m w) (hL : q.L = p0.L)
   (HP : Hid (∀ W, Below w.heap.size w W → Calls Tryz.prog 24 #[.string s] W fun e w' => ∃ b A c, e = .returned (.pointer (some ⟨b, 0, none⟩)) ∧ W.heap.size ≤ b ∧ PB w' b A c p0 ∧ Below W.heap.size W w'))
   (KE : Hid (∀ b A c W, PB W b A c p0 → Calls Tryz.prog 25 #[.pointer (some ⟨b, 0, none⟩), .int .i64 1] W fun e w' => EOut b A c W w' (x, q) e))
   (KS : Hid (∀ cs W, XM (fun _ => True) W x cs → OKW m W → Calls Tryz.prog 29 #[.agg cs] W fun e w' => e = .returned (.bool ok) ∧ Below W.heap.size W w')) :
   Calls Tryz.prog 9 #[.string s] w fun e w' => EPOut w w' (outE x q ok) e ∧ Below w.heap.size w w' := by
 have HW := Lib.hid hw
 have KD := Lib.hid (fun (b : Nat) (A : Option Addr) (c : Nat) (W : World) (h : PB W b A c q) => ended_any b A c q W h)
 have KF := Lib.hid (fun (b : Nat) (A : Option Addr) (c : Nat) (W : World) (h : PB W b A c q) => fail_any b A c q 5 W h)
 have KR := Lib.hid (fun (b : Nat) (A : Option Addr) (c : Nat) (q : PS) (W : World) (h : PB W b A c q) => error_any b A c q W h)
 have k0 : Blk (w.alloc (.cells #[.int .i64 0, .int .i64 0, .int .i64 0, .int .i64 0, .string ⟨#[]⟩, .int .i64 0, .string ⟨#[]⟩, .slice none 0 0] 33)) w.heap.size 33 #[.int .i64 0, .int .i64 0, .int .i64 0, .int .i64 0, .string ⟨#[]⟩, .int .i64 0, .string ⟨#[]⟩, .slice none 0 0] := Blk.new _ _ _
 have HL := Lib.hid hL
 clear hw hL
 go_enter Tryz.func9, Tryz.ntmps9
 go_wp2_with fail
 refine (HP.out _ (by (repeat' first | (with_reducible first | exact .refl _ _ | assumption | apply balloc | apply Below.drew | apply bset | refine bstep ?_ ‹_› | refine bturn ?_ ‹_› ?_) | go_size))).mono ?_
 rintro e w1 ⟨b, A, c, rfl, hbb, h1, hb1⟩
 have hb01 : Below w.heap.size w w1 := by (repeat' first | (with_reducible first | exact .refl _ _ | assumption | apply balloc | apply Below.drew | apply bset | refine bstep ?_ ‹_› | refine bturn ?_ ‹_› ?_) | go_size)
 have k1 := Lib.hid (k0.step hb1)
 have hz1 := hb1.size
 simp only [World.size_alloc] at hz1 hbb
 have hlb := h1.blk.lt
 clear k0 hb1 HP
 go_wp2_with fail
 refine (KE.out _ _ _ _ h1).mono ?_
 rintro e w2 ⟨⟨cs, rfl, hx⟩, h2, g2⟩
 have hz2 := g2.size
 have hb02 : Below w.heap.size w w2 := g2.below hb01 (by omega)
 have k2 := Lib.hid (k1.out.gr g2 (by omega))
 have X2 := Lib.hid ((hx.mono fun g hg _ => (show w.heap.size + 1 ≤ g by omega)).top (Nat.le_refl _))
 obtain ⟨o, k, n, si, y, mm, r, B, l, cc, rfl⟩ := hx.cells
 have kA : Blk (w2.alloc (.cells #[.int .i64 0, .int .i64 0, .int .i64 0, .int .i64 0, .string ⟨#[]⟩, .int .i64 0, .string ⟨#[]⟩, .slice none 0 0] 33)) w2.heap.size 33 #[.int .i64 0, .int .i64 0, .int .i64 0, .int .i64 0, .string ⟨#[]⟩, .int .i64 0, .string ⟨#[]⟩, .slice none 0 0] := Blk.new _ _ _
 have HP2 := Lib.hid h2
 clear hx h1 h2 g2 KE hb01
 go_upto_region 3 with (refine wpList_store_blk kA rfl _ _ _ (by rfl) _ (by rfl) (by rfl) (by repeat first | with_reducible first | exact kA | apply Blk.alloc | apply Blk.drew | refine Blk.far ?_ (by simp <;> omega) _ | refine Blk.turn ?_ ‹_› (by omega)) (by rfl) (by kernel_rfl) (by simp [Value.oneCell']) ?_; intro wt kAn ht)
 have hb3 : Below w2.heap.size w2 wt := bturn (balloc (Below.refl _ _) _) ht (Nat.le_refl _)
 have k3 := Lib.hid (k2.out.step hb3)
 have kA3 := Lib.hid kAn
 have hz3 : w2.heap.size < wt.heap.size := kAn.lt
 have h3 := HP2.out.step hb3
 have H3 := Lib.hid h3
 have X3 := Lib.hid (X2.out.step hb3)
 have hb03 : Below w.heap.size w wt := bstep hb02 hb3
 clear kA kAn HP2 X2 hb3 ht k2 hb02
 by_cases he : q.e = 0
 · cases hE : q.ended with
   | false =>
     have KD2 := Lib.hid (KD.out b A c)
     rw [hE] at KD2
     have HO : Hid (outE x q ok = (zeroE, (q.fail 5).a, 5)) := Lib.hid (by
       have h1 : q.fin = q.fail 5 := by unfold PS.fin; rw [if_pos ⟨he, hE⟩]
       have h2 : (q.fail 5).e = 5 := by unfold PS.fail; rw [if_pos he]
       unfold outE
       rw [h1, h2, if_neg (by decide)])
     obtain ⟨q5, hq5⟩ : ∃ z, q.fail 5 = z := ⟨_, rfl⟩
     have hq5e : q5.e = 5 := by rw [← hq5]; unfold PS.fail; rw [if_pos he]
     have KF2 := Lib.hid (KF.out b A c)
     rw [hq5] at KF2 HO
     clear hE hq5
     have hbp := (h3).blk; obtain ⟨hlp, hllp, qp0, qp1, qp2, qp3, qp4, qp5, zp0, zp1, zp2, zp3, zp4, zp5⟩ := bf6 hbp; (try simp at qp0 qp1 qp2 qp3 qp4 qp5); have Hhbp := Lib.hid hbp; clear hbp
     rw [he] at qp4
     clear h3 he
     go_wp2_with fail
     refine (KD2.out _ H3.out).mono ?_
     rintro e w4 ⟨rfl, hb4⟩
     have h4 := H3.out.step hb4
     have k4 := Lib.hid (k3.out.step hb4)
     have hb04 : Below w.heap.size w w4 := bstep hb03 hb4
     have hz4 := hb4.size
     clear qp0 zp0 qp1 zp1 qp2 zp2 qp3 zp3 qp4 zp4 qp5 zp5 hlp hllp Hhbp
     go_wp2_with fail
     refine (KF2.out _ h4).mono ?_
     rintro e w5 ⟨rfl, h5, g5⟩
     have k5 := Lib.hid (k4.out.gr g5 (by omega))
     have hb05 : Below w.heap.size w w5 := g5.below hb04 (by omega)
     have hz5 := g5.size
     clear h4 g5
     go_wp2_with fail
     refine (KR.out b A c q5 _ h5).mono ?_
     rintro e w6 ⟨rfl, hb6⟩
     have k6 := k5.out.step hb6
     have hb06 : Below w.heap.size w w6 := bstep hb05 hb6
     rw [hq5e]
     clear h5 hb6
     go_wp2_with (refine wpList_store_blk k6 rfl _ _ _ (by rfl) _ (by rfl) (by rfl) (by repeat first | with_reducible first | exact k6 | apply Blk.alloc | apply Blk.drew | refine Blk.far ?_ (by simp <;> omega) _ | refine Blk.turn ?_ ‹_› (by omega)) (by rfl) (by kernel_rfl) (by simp [Value.oneCell']) ?_; intro wt k6n ht)
     refine ret_blk3 rfl k6n rfl Tryz.underlying33 rfl (by kernel_rfl) rfl ?_
     exact ⟨by rw [HO.out]; exact ⟨_, rfl, zero_xm⟩, bturn hb06 ht (Nat.le_refl _)⟩
   | true =>
     have KD2 := Lib.hid (KD.out b A c)
     rw [hE] at KD2
     have hO : outE x q ok = if ok = true then (x, 0, 0) else (zeroE, 0, 9) := by
       have h1 : q.fin = q := by unfold PS.fin; rw [if_neg (by rw [hE]; simp)]
       unfold outE
       rw [h1, if_pos he]
     have HE := Lib.hid he
     clear hE
     have hbp := (h3).blk; obtain ⟨hlp, hllp, qp0, qp1, qp2, qp3, qp4, qp5, zp0, zp1, zp2, zp3, zp4, zp5⟩ := bf6 hbp; (try simp at qp0 qp1 qp2 qp3 qp4 qp5); have Hhbp := Lib.hid hbp; clear hbp
     rw [he] at qp4
     clear h3 he
     go_wp2_with fail
     refine (KD2.out _ H3.out).mono ?_
     rintro e w4 ⟨rfl, hb4⟩
     have h4 := H3.out.step hb4
     have k4 := Lib.hid (k3.out.step hb4)
     have kA4 := Lib.hid (kA3.out.step hb4)
     have X4 := Lib.hid (X3.out.step hb4)
     have hb04 : Below w.heap.size w w4 := bstep hb03 hb4
     have hz4 := hb4.size
     clear qp0 zp0 qp1 zp1 qp2 zp2 qp3 zp3 qp4 zp4 qp5 zp5 hlp hllp Hhbp
     go_wp2_with fail
     refine (KR.out b A c q _ h4).mono ?_
     rintro e w5 ⟨rfl, hb5⟩
     have k5 := Lib.hid (k4.out.step hb5)
     have kA5 := kA4.out.step hb5
     have KA5 := Lib.hid kA5
     have X5 := Lib.hid (X4.out.step hb5)
     have hb05 : Below w.heap.size w w5 := bstep hb04 hb5
     have hz5 := hb5.size
     rw [HE.out]
     clear h4
     obtain ⟨hlu, hllu, qu0, qu1, qu2, qu3, qu4, qu5, qu6, qu7, zu0, zu1, zu2, zu3, zu4, zu5, zu6, zu7⟩ := bf8 kA5; (try simp at qu0 qu1 qu2 qu3 qu4 qu5 qu6 qu7); have HkA5 := Lib.hid kA5; clear kA5
     go_wp2_with fail
     refine (KS.out _ _ (X5.out.mono fun _ _ _ => trivial) (HW.out.step hb05)).mono ?_
     rintro e w6 ⟨rfl, hb6⟩
     have k6 := k5.out.step hb6
     have kA6 := KA5.out.step hb6
     have X6 := Lib.hid (X5.out.step hb6)
     have hb06 : Below w.heap.size w w6 := bstep hb05 hb6
     clear qu0 qu1 qu2 qu3 qu4 qu5 qu6 qu7 zu0 zu1 zu2 zu3 zu4 zu5 zu6 zu7 hlu hllu hb6 hb5
     cases ok with
     | false =>
       rw [if_neg (by decide)] at hO
       have HO := Lib.hid hO
       clear hO
       go_wp2_with (refine wpList_store_blk k6 rfl _ _ _ (by rfl) _ (by rfl) (by rfl) (by repeat first | with_reducible first | exact k6 | apply Blk.alloc | apply Blk.drew | refine Blk.far ?_ (by simp <;> omega) _ | refine Blk.turn ?_ ‹_› (by omega)) (by rfl) (by kernel_rfl) (by simp [Value.oneCell']) ?_; intro wt k6n ht)
       refine ret_blk3 rfl k6n rfl Tryz.underlying33 rfl (by kernel_rfl) rfl ?_
       exact ⟨by rw [HO.out]; exact ⟨_, rfl, zero_xm⟩, bturn hb06 ht (Nat.le_refl _)⟩
     | true =>
       rw [if_pos rfl] at hO
       have HO := Lib.hid hO
       clear hO
       go_wp2_with (first | (refine wpList_load_blk kA6 rfl _ _ (by rfl) (by rfl) (by (repeat first | with_reducible first | exact kA6 | apply Blk.alloc | apply Blk.drew | refine Blk.far ?_ (by simp <;> omega) _ | refine Blk.turn ?_ ‹_› (by omega))) _ Tryz.underlying33 rfl (by kernel_rfl) ?_) | (refine wpList_store_blk k6 rfl _ _ _ (by rfl) _ (by rfl) (by rfl) (by repeat first | with_reducible first | exact k6 | apply Blk.alloc | apply Blk.drew | refine Blk.far ?_ (by simp <;> omega) _ | refine Blk.turn ?_ ‹_› (by omega)) (by rfl) (by kernel_rfl) (by simp [Value.oneCell']) ?_; intro wt k6n ht))
       refine ret_blk3 rfl k6n rfl Tryz.underlying33 rfl (by kernel_rfl) rfl ?_
       exact ⟨by rw [HO.out]; exact ⟨_, rfl, (X6.out.turn ht fun g hg => by omega).mono fun g hg _ => by omega⟩, bturn hb06 ht (Nat.le_refl _)⟩
 · have hneb : (q.e == 0) = false := by simpa using he
   have hneb2 : (q.e != 0) = true := by simpa using he
   have HO : Hid (outE x q ok = (zeroE, q.a, q.e)) := Lib.hid (by
     have h1 : q.fin = q := by unfold PS.fin; rw [if_neg (fun h => he h.1)]
     unfold outE
     rw [h1, if_neg he])
   have hbp := (h3).blk; obtain ⟨hlp, hllp, qp0, qp1, qp2, qp3, qp4, qp5, zp0, zp1, zp2, zp3, zp4, zp5⟩ := bf6 hbp; (try simp at qp0 qp1 qp2 qp3 qp4 qp5); have Hhbp := Lib.hid hbp; clear hbp
   clear h3 he
   go_wp2_with fail
   refine (KR.out b A c q _ H3.out).mono ?_
   rintro e w4 ⟨rfl, hb4⟩
   have k4 := k3.out.step hb4
   have hb04 : Below w.heap.size w w4 := bstep hb03 hb4
   clear qp0 zp0 qp1 zp1 qp2 zp2 qp3 zp3 qp4 zp4 qp5 zp5 hlp hllp Hhbp
   go_wp2_with (refine wpList_store_blk k4 rfl _ _ _ (by rfl) _ (by rfl) (by rfl) (by repeat first | with_reducible first | exact k4 | apply Blk.alloc | apply Blk.drew | refine Blk.far ?_ (by simp <;> omega) _ | refine Blk.turn ?_ ‹_› (by omega)) (by rfl) (by kernel_rfl) (by simp [Value.oneCell']) ?_; intro wt k4n ht)
   refine ret_blk3 rfl k4n rfl Tryz.underlying33 rfl (by kernel_rfl) rfl ?_
   exact ⟨by rw [HO.out]; exact ⟨_, rfl, zero_xm⟩, bturn hb04 ht (Nat.le_refl _)⟩
theorem eparse_any (m : Int) (s : ByteArray) (w : World) (hw : OKW m w) (F : Nat) (hF : 600000 ≤ F) :
   Calls Tryz.prog 9 #[.string s] w fun e w' => EPOut w w' (exprS (lxX m) F soundX s.data.toList) e ∧ Below w.heap.size w w' := by
 obtain ⟨h1, h2, h3⟩ := toksS_ok m w hw s.data.toList
 have h0 : POK s.data.toList.length (newP (toksS (lxX m) s.data.toList) s.data.toList.length) := ⟨Nat.le_refl _, Int.natCast_nonneg _, Int.ofNat_le.2 h2, h1⟩
 have hR : Rm 0 65536 (newP (toksS (lxX m) s.data.toList) s.data.toList.length) := ⟨Int.le_refl _, Int.le_refl _, Nat.zero_le _, h3, by show (toksS (lxX m) s.data.toList).l.length ≤ 100000; omega⟩
 have hv := (ev_all wordB _ F).1 _ 1 h0
 have hL := ((fw_all wordB F).1 (newP (toksS (lxX m) s.data.toList) s.data.toList.length) 1).L
 unfold exprS
 exact eparse_walk s _ _ _ _ m w hw hL
   (Lib.hid fun W hb => newp_any m s _ rfl W (hw.step hb))
   (Lib.hid fun b A c W hW => (reads_all F F (Nat.le_refl _)).1 b A c _ 1 65536 W hW hR (by omega) (by omega))
   (Lib.hid fun cs W hx hW => sound_any' _ cs m W hW hx hv)
end Go.Proofs.YtapilekangmcoaaGreatDoor
namespace Go.Proofs.YtapilekangmcoaaGreatDoor
open Go.RowKit
/-- What Text answers, whatever expression. -/
def ETextAny : Prop := ∀ (x : Ex) (cs : Array Value) (m : Int) (w : World), OKW m w → XM (fun _ => True) w x cs → EV x → Calls Tryz.prog 35 #[.agg cs] w fun e w' => e = .returned (.tuple #[.string (bs (textX x).1), .int .i64 (textX x).2]) ∧ Below w.heap.size w w'
theorem ev1 {o : Int} {s : Bs} {a : Ex} (h : EV a) : EV (.mk o zeroV s [a]) := .mk _ _ _ _ zero_vok fun k hk => by
 rw [List.mem_singleton.1 hk]
 exact h
theorem ev2 {o : Int} {s : Bs} {a b : Ex} (h : EV a) (g : EV b) : EV (.mk o zeroV s [a, b]) := .mk _ _ _ _ zero_vok fun k hk => by
 rcases List.mem_cons.1 hk with rfl | hk
 · exact h
 · rw [List.mem_singleton.1 hk]
   exact g
theorem ak_ev : EV akX := by
 have l : ∀ c, EV (akN c) := fun c => .mk 2 zeroV [c] [] zero_vok (by simp)
 have n2 : EV (.mk 1 (akV 2) [] []) := .mk _ _ _ _ (vs_ok (.inr (.inl ⟨rfl, by decide, rfl, rfl⟩))) (by simp)
 have n3 : EV (.mk 1 (akV 3) [] []) := .mk _ _ _ _ (vs_ok (.inr (.inl ⟨rfl, by decide, rfl, rfl⟩))) (by simp)
 exact ev2 (ev2 (ev2 (l 97) (ev2 n2 (ev1 (l 98)))) n3) (ev1 (l 99))
theorem ak_textX : textX akX = (akT, 0) := by
 unfold textX
 rw [if_pos ak_sound, ak_text, if_neg (by decide)]
set_option maxHeartbeats 4000000 in
theorem awake_ex (hTA : Hid ETextAny) (m : Int) (w : World) (hw : OKW m w) : Calls Tryz.prog 13 #[] w fun e w' => e = .returned (.bool true) ∧ Below w.heap.size w w' := by
 have HW := Lib.hid hw
 have HP := Lib.hid (fun W (hW : OKW m W) => by
   have h := eparse_any m ⟨#[97, 32, 43, 32, 50, 32, 42, 32, 45, 98, 32, 61, 32, 51, 32, 97, 110, 100, 32, 110, 111, 116, 40, 99, 41]⟩ W hW 600000 (Nat.le_refl _)
   rw [show (⟨#[97, 32, 43, 32, 50, 32, 42, 32, 45, 98, 32, 61, 32, 51, 32, 97, 110, 100, 32, 110, 111, 116, 40, 99, 41]⟩ : ByteArray).data.toList = akB from rfl, ak_parse m W hW] at h
   unfold EPOut at h
   dsimp only at h
   exact h)
 have HT := Lib.hid (fun cs W (hW : OKW m W) (hx : XM (fun _ => True) W akX cs) => by
   have h := hTA.out akX cs m W hW hx ak_ev
   rw [ak_textX, show bs akT = ⟨#[40, 40, 97, 32, 43, 32, 40, 50, 32, 42, 32, 40, 45, 98, 41, 41, 41, 32, 61, 32, 51, 41, 32, 97, 110, 100, 32, 40, 110, 111, 116, 40, 99, 41, 41]⟩ from rfl] at h
   exact h)
 clear hw hTA
 go_enter Tryz.func13, Tryz.ntmps13
 go_wp2_with fail
 refine (HP.out _ HW.out).mono ?_
 rintro e w1 ⟨⟨cs, rfl, hx⟩, hb1⟩
 obtain ⟨A, c, hcs⟩ := hx.get
 replace hcs : cs = #[.int .i64 14, .int .i64 0, .int .i64 0, .int .i64 0, .string ⟨#[]⟩, .int .i64 0, .string ⟨#[]⟩, .slice A 2 c] := hcs
 subst hcs
 have kA : Blk (w1.alloc (.cells #[.int .i64 0, .int .i64 0, .int .i64 0, .int .i64 0, .string ⟨#[]⟩, .int .i64 0, .string ⟨#[]⟩, .slice none 0 0] 33)) w1.heap.size 33 #[.int .i64 0, .int .i64 0, .int .i64 0, .int .i64 0, .string ⟨#[]⟩, .int .i64 0, .string ⟨#[]⟩, .slice none 0 0] := Blk.new _ _ _
 have X1 := Lib.hid (hx.mono fun _ _ _ => trivial)
 clear hx HP
 go_upto_region 2 with (refine wpList_store_blk kA rfl _ _ _ (by rfl) _ (by rfl) (by rfl) (by repeat first | with_reducible first | exact kA | apply Blk.alloc | apply Blk.drew | refine Blk.far ?_ (by simp <;> omega) _ | refine Blk.turn ?_ ‹_› (by omega)) (by rfl) (by kernel_rfl) (by simp [Value.oneCell']) ?_; intro wt kAn ht)
 have hb2 : Below w1.heap.size w1 wt := bturn (balloc (Below.refl _ _) _) ht (Nat.le_refl _)
 have hb02 : Below w.heap.size w wt := bstep hb1 hb2
 have X2 := Lib.hid (X1.out.step hb2)
 have W2 := Lib.hid (HW.out.step hb02)
 have k2 := Lib.hid kAn
 clear kA ht hb1 X1
 obtain ⟨hlu, hllu, qu0, qu1, qu2, qu3, qu4, qu5, qu6, qu7, zu0, zu1, zu2, zu3, zu4, zu5, zu6, zu7⟩ := bf8 kAn; (try simp at qu0 qu1 qu2 qu3 qu4 qu5 qu6 qu7); have HkAn := Lib.hid kAn; clear kAn
 go_wp2_with (refine wpList_load_blk kAn rfl _ _ (by rfl) (by rfl) (by (repeat first | with_reducible first | exact kAn | apply Blk.alloc | apply Blk.drew | refine Blk.far ?_ (by simp <;> omega) _ | refine Blk.turn ?_ ‹_› (by omega))) _ Tryz.underlying33 rfl (by kernel_rfl) ?_)
 refine (HT.out _ _ W2.out X2.out).mono ?_
 rintro e w3 ⟨rfl, hb3⟩
 have k3 := k2.out.step hb3
 have hb03 := bstep hb02 hb3
 clear qu0 qu1 qu2 qu3 qu4 qu5 qu6 qu7 zu0 zu1 zu2 zu3 zu4 zu5 zu6 zu7 hlu hllu
 obtain ⟨hlu, hllu, qu0, qu1, qu2, qu3, qu4, qu5, qu6, qu7, zu0, zu1, zu2, zu3, zu4, zu5, zu6, zu7⟩ := bf8 k3; (try simp at qu0 qu1 qu2 qu3 qu4 qu5 qu6 qu7); have Hk3 := Lib.hid k3; clear k3
 go_wp2_with (refine wpList_load_blk k3 rfl _ _ (by rfl) (by rfl) (by (repeat first | with_reducible first | exact k3 | apply Blk.alloc | apply Blk.drew | refine Blk.far ?_ (by simp <;> omega) _ | refine Blk.turn ?_ ‹_› (by omega))) _ Tryz.underlying33 rfl (by kernel_rfl) ?_)
 go_returns
 exact ⟨rfl, hb03⟩
end Go.Proofs.YtapilekangmcoaaGreatDoor
namespace Go.Proofs.YtapilekangmcoaaGreatDoor
open Go.RowKit
section
variable (n s m : Int) (q : ByteArray) (w : World)
theorem vt_0 (KS : Hid (∀ W, Below w.heap.size w W → Calls Tryz.prog 32 #[.agg #[.int .i64 0, .int .i64 n, .int .i64 s, .string q, .int .i64 m]] W fun e w' => e = .returned (.bool true) ∧ Below W.heap.size W w')) :
   Calls Tryz.prog 91 #[.agg #[.int .i64 0, .int .i64 n, .int .i64 s, .string q, .int .i64 m]] w fun e w' => e = .returned (.tuple #[.string ⟨#[110, 117, 108, 108]⟩, .int .i64 0]) ∧ Below w.heap.size w w' := by
 have k0 : Blk (w.alloc (.cells #[.int .i64 0, .int .i64 n, .int .i64 s, .string q, .int .i64 m] 25)) w.heap.size 25 #[.int .i64 0, .int .i64 n, .int .i64 s, .string q, .int .i64 m] := Blk.new _ _ _
 go_enter Tryz.func91, Tryz.ntmps91
 go_wp2_with fail
 refine (KS.out _ (by (repeat' first | (with_reducible first | exact .refl _ _ | assumption | apply balloc | apply Below.drew | apply bset | refine bstep ?_ ‹_› | refine bturn ?_ ‹_› ?_) | go_size))).mono ?_
 rintro e w1 ⟨rfl, hb1⟩
 have k1 := k0.step hb1
 have hb : Below w.heap.size w w1 := by (repeat' first | (with_reducible first | exact .refl _ _ | assumption | apply balloc | apply Below.drew | apply bset | refine bstep ?_ ‹_› | refine bturn ?_ ‹_› ?_) | go_size)
 clear k0
 obtain ⟨hlu, hllu, qu0, qu1, qu2, qu3, qu4, zu0, zu1, zu2, zu3, zu4⟩ := bf5 k1; (try simp at qu0 qu1 qu2 qu3 qu4); have Hk1 := Lib.hid k1; clear k1
 go_wp2_with fail
 go_returns
 exact ⟨rfl, by (repeat' first | (with_reducible first | exact .refl _ _ | assumption | apply balloc | apply Below.drew | apply bset | refine bstep ?_ ‹_› | refine bturn ?_ ‹_› ?_) | go_size)⟩
theorem vt_3f (KS : Hid (∀ W, Below w.heap.size w W → Calls Tryz.prog 32 #[.agg #[.int .i64 3, .int .i64 n, .int .i64 s, .string q, .int .i64 0]] W fun e w' => e = .returned (.bool true) ∧ Below W.heap.size W w')) :
   Calls Tryz.prog 91 #[.agg #[.int .i64 3, .int .i64 n, .int .i64 s, .string q, .int .i64 0]] w fun e w' => e = .returned (.tuple #[.string ⟨#[102, 97, 108, 115, 101]⟩, .int .i64 0]) ∧ Below w.heap.size w w' := by
 have k0 : Blk (w.alloc (.cells #[.int .i64 3, .int .i64 n, .int .i64 s, .string q, .int .i64 0] 25)) w.heap.size 25 #[.int .i64 3, .int .i64 n, .int .i64 s, .string q, .int .i64 0] := Blk.new _ _ _
 go_enter Tryz.func91, Tryz.ntmps91
 go_wp2_with fail
 refine (KS.out _ (by (repeat' first | (with_reducible first | exact .refl _ _ | assumption | apply balloc | apply Below.drew | apply bset | refine bstep ?_ ‹_› | refine bturn ?_ ‹_› ?_) | go_size))).mono ?_
 rintro e w1 ⟨rfl, hb1⟩
 have k1 := k0.step hb1
 have hb : Below w.heap.size w w1 := by (repeat' first | (with_reducible first | exact .refl _ _ | assumption | apply balloc | apply Below.drew | apply bset | refine bstep ?_ ‹_› | refine bturn ?_ ‹_› ?_) | go_size)
 clear k0
 obtain ⟨hlu, hllu, qu0, qu1, qu2, qu3, qu4, zu0, zu1, zu2, zu3, zu4⟩ := bf5 k1; (try simp at qu0 qu1 qu2 qu3 qu4); have Hk1 := Lib.hid k1; clear k1
 go_wp2_with fail
 go_returns
 exact ⟨rfl, by (repeat' first | (with_reducible first | exact .refl _ _ | assumption | apply balloc | apply Below.drew | apply bset | refine bstep ?_ ‹_› | refine bturn ?_ ‹_› ?_) | go_size)⟩
theorem vt_3t (KS : Hid (∀ W, Below w.heap.size w W → Calls Tryz.prog 32 #[.agg #[.int .i64 3, .int .i64 n, .int .i64 s, .string q, .int .i64 1]] W fun e w' => e = .returned (.bool true) ∧ Below W.heap.size W w')) :
   Calls Tryz.prog 91 #[.agg #[.int .i64 3, .int .i64 n, .int .i64 s, .string q, .int .i64 1]] w fun e w' => e = .returned (.tuple #[.string ⟨#[116, 114, 117, 101]⟩, .int .i64 0]) ∧ Below w.heap.size w w' := by
 have k0 : Blk (w.alloc (.cells #[.int .i64 3, .int .i64 n, .int .i64 s, .string q, .int .i64 1] 25)) w.heap.size 25 #[.int .i64 3, .int .i64 n, .int .i64 s, .string q, .int .i64 1] := Blk.new _ _ _
 go_enter Tryz.func91, Tryz.ntmps91
 go_wp2_with fail
 refine (KS.out _ (by (repeat' first | (with_reducible first | exact .refl _ _ | assumption | apply balloc | apply Below.drew | apply bset | refine bstep ?_ ‹_› | refine bturn ?_ ‹_› ?_) | go_size))).mono ?_
 rintro e w1 ⟨rfl, hb1⟩
 have k1 := k0.step hb1
 have hb : Below w.heap.size w w1 := by (repeat' first | (with_reducible first | exact .refl _ _ | assumption | apply balloc | apply Below.drew | apply bset | refine bstep ?_ ‹_› | refine bturn ?_ ‹_› ?_) | go_size)
 clear k0
 obtain ⟨hlu, hllu, qu0, qu1, qu2, qu3, qu4, zu0, zu1, zu2, zu3, zu4⟩ := bf5 k1; (try simp at qu0 qu1 qu2 qu3 qu4); have Hk1 := Lib.hid k1; clear k1
 go_wp2_with fail
 go_returns
 exact ⟨rfl, by (repeat' first | (with_reducible first | exact .refl _ _ | assumption | apply balloc | apply Below.drew | apply bset | refine bstep ?_ ‹_› | refine bturn ?_ ‹_› ?_) | go_size)⟩
theorem vt_1 (o : ByteArray) (KS : Hid (∀ W, Below w.heap.size w W → Calls Tryz.prog 32 #[.agg #[.int .i64 1, .int .i64 n, .int .i64 s, .string q, .int .i64 m]] W fun e w' => e = .returned (.bool true) ∧ Below W.heap.size W w'))
   (KT : Hid (∀ W, Below w.heap.size w W → Calls Tryz.prog 134 #[.agg #[.int .i64 n, .int .i64 s]] W fun e w' => e = .returned (.tuple #[.string o, .int .i64 0]) ∧ Below W.heap.size W w')) :
   Calls Tryz.prog 91 #[.agg #[.int .i64 1, .int .i64 n, .int .i64 s, .string q, .int .i64 m]] w fun e w' => e = .returned (.tuple #[.string o, .int .i64 0]) ∧ Below w.heap.size w w' := by
 have k0 : Blk (w.alloc (.cells #[.int .i64 1, .int .i64 n, .int .i64 s, .string q, .int .i64 m] 25)) w.heap.size 25 #[.int .i64 1, .int .i64 n, .int .i64 s, .string q, .int .i64 m] := Blk.new _ _ _
 go_enter Tryz.func91, Tryz.ntmps91
 go_wp2_with fail
 refine (KS.out _ (by (repeat' first | (with_reducible first | exact .refl _ _ | assumption | apply balloc | apply Below.drew | apply bset | refine bstep ?_ ‹_› | refine bturn ?_ ‹_› ?_) | go_size))).mono ?_
 rintro e w1 ⟨rfl, hb1⟩
 have k1 := k0.step hb1
 have hb : Below w.heap.size w w1 := by (repeat' first | (with_reducible first | exact .refl _ _ | assumption | apply balloc | apply Below.drew | apply bset | refine bstep ?_ ‹_› | refine bturn ?_ ‹_› ?_) | go_size)
 clear k0
 obtain ⟨hlu, hllu, qu0, qu1, qu2, qu3, qu4, zu0, zu1, zu2, zu3, zu4⟩ := bf5 k1; (try simp at qu0 qu1 qu2 qu3 qu4); have Hk1 := Lib.hid k1; clear k1
 go_wp2_with fail
 refine (KT.out _ (by (repeat' first | (with_reducible first | exact .refl _ _ | assumption | apply balloc | apply Below.drew | apply bset | refine bstep ?_ ‹_› | refine bturn ?_ ‹_› ?_) | go_size))).mono ?_
 rintro e w2 ⟨rfl, hb2⟩
 go_wp2_with fail
 go_returns
 exact ⟨rfl, by (repeat' first | (with_reducible first | exact .refl _ _ | assumption | apply balloc | apply Below.drew | apply bset | refine bstep ?_ ‹_› | refine bturn ?_ ‹_› ?_) | go_size)⟩
theorem vt_4 (o : ByteArray) (ho : o.size ≤ 1000) (KS : Hid (∀ W, Below w.heap.size w W → Calls Tryz.prog 32 #[.agg #[.int .i64 4, .int .i64 n, .int .i64 s, .string q, .int .i64 m]] W fun e w' => e = .returned (.bool true) ∧ Below W.heap.size W w'))
   (KT : Hid (∀ W, Below w.heap.size w W → Calls Tryz.prog 137 #[.int .i64 m] W fun e w' => e = .returned (.tuple #[.string o, .int .i64 0]) ∧ Below W.heap.size W w')) :
   Calls Tryz.prog 91 #[.agg #[.int .i64 4, .int .i64 n, .int .i64 s, .string q, .int .i64 m]] w fun e w' => e = .returned (.tuple #[.string ((⟨#[64, 34]⟩ ++ o) ++ ⟨#[34]⟩), .int .i64 0]) ∧ Below w.heap.size w w' := by
 have h1 : (2 : Nat) + o.size ≤ 9223372036854775807 := by omega
 have h2 : ((⟨#[64, 34]⟩ : ByteArray) ++ o).size + 1 ≤ 9223372036854775807 := by rw [ByteArray.size_append]; show 2 + o.size + 1 ≤ _; omega
 have h3 : (2 : Nat) + o.size + 1 ≤ 9223372036854775807 := by omega
 have k0 : Blk (w.alloc (.cells #[.int .i64 4, .int .i64 n, .int .i64 s, .string q, .int .i64 m] 25)) w.heap.size 25 #[.int .i64 4, .int .i64 n, .int .i64 s, .string q, .int .i64 m] := Blk.new _ _ _
 go_enter Tryz.func91, Tryz.ntmps91
 go_wp2_with fail
 refine (KS.out _ (by (repeat' first | (with_reducible first | exact .refl _ _ | assumption | apply balloc | apply Below.drew | apply bset | refine bstep ?_ ‹_› | refine bturn ?_ ‹_› ?_) | go_size))).mono ?_
 rintro e w1 ⟨rfl, hb1⟩
 have k1 := k0.step hb1
 have hb : Below w.heap.size w w1 := by (repeat' first | (with_reducible first | exact .refl _ _ | assumption | apply balloc | apply Below.drew | apply bset | refine bstep ?_ ‹_› | refine bturn ?_ ‹_› ?_) | go_size)
 clear k0
 obtain ⟨hlu, hllu, qu0, qu1, qu2, qu3, qu4, zu0, zu1, zu2, zu3, zu4⟩ := bf5 k1; (try simp at qu0 qu1 qu2 qu3 qu4); have Hk1 := Lib.hid k1; clear k1
 go_wp2_with fail
 refine (KT.out _ (by (repeat' first | (with_reducible first | exact .refl _ _ | assumption | apply balloc | apply Below.drew | apply bset | refine bstep ?_ ‹_› | refine bturn ?_ ‹_› ?_) | go_size))).mono ?_
 rintro e w2 ⟨rfl, hb2⟩
 go_wp2_with fail
 go_returns
 exact ⟨rfl, by (repeat' first | (with_reducible first | exact .refl _ _ | assumption | apply balloc | apply Below.drew | apply bset | refine bstep ?_ ‹_› | refine bturn ?_ ‹_› ?_) | go_size)⟩
theorem vt_2 (E : ByteArray) (hq : q.size ≤ 1900000) (hE : bs (escB q.data.toList) = E) (hes : E.size ≤ 3800000) (KS : Hid (∀ W, Below w.heap.size w W → Calls Tryz.prog 32 #[.agg #[.int .i64 2, .int .i64 n, .int .i64 s, .string q, .int .i64 m]] W fun e w' => e = .returned (.bool true) ∧ Below W.heap.size W w')) :
   Calls Tryz.prog 91 #[.agg #[.int .i64 2, .int .i64 n, .int .i64 s, .string q, .int .i64 m]] w fun e w' => e = .returned (.tuple #[.string ((⟨#[34]⟩ ++ E) ++ ⟨#[34]⟩), .int .i64 0]) ∧ Below w.heap.size w w' := by
 have hes1 : 1 + E.size ≤ 9223372036854775807 := by omega
 have hes2 : ((⟨#[34]⟩ : ByteArray) ++ E).size + 1 ≤ 9223372036854775807 := by rw [ByteArray.size_append]; show 1 + E.size + 1 ≤ _; omega
 have hes3 : 1 + E.size + 1 ≤ 9223372036854775807 := by omega
 have k0 : Blk (w.alloc (.cells #[.int .i64 2, .int .i64 n, .int .i64 s, .string q, .int .i64 m] 25)) w.heap.size 25 #[.int .i64 2, .int .i64 n, .int .i64 s, .string q, .int .i64 m] := Blk.new _ _ _
 go_enter Tryz.func91, Tryz.ntmps91
 go_wp2_with fail
 refine (KS.out _ (by (repeat' first | (with_reducible first | exact .refl _ _ | assumption | apply balloc | apply Below.drew | apply bset | refine bstep ?_ ‹_› | refine bturn ?_ ‹_› ?_) | go_size))).mono ?_
 rintro e w1 ⟨rfl, hb1⟩
 have k1 := k0.step hb1
 have hb0 : Below w.heap.size w w1 := by (repeat' first | (with_reducible first | exact .refl _ _ | assumption | apply balloc | apply Below.drew | apply bset | refine bstep ?_ ‹_› | refine bturn ?_ ‹_› ?_) | go_size)
 have hsz := hb0.size
 clear k0
 have K1 := Lib.hid k1
 obtain ⟨hlu, hllu, qu0, qu1, qu2, qu3, qu4, zu0, zu1, zu2, zu3, zu4⟩ := bf5 k1; (try simp at qu0 qu1 qu2 qu3 qu4); have Hk1 := Lib.hid k1; clear k1
 go_wp2_with fail
 go_region_with (first
   | (go_at_call 135; refine (new_rep _ _ _ (ss_newd _ _ (by simp))).mono ?_; rintro e w' ⟨rb, rg, rc, rfl, hrb, hrs, hrl, hb⟩; have hb2 : Below w1.heap.size w1 w' := bstep (by (repeat' first | (with_reducible first | exact .refl _ _ | assumption | apply balloc | apply Below.drew | apply bset | refine bstep ?_ ‹_› | refine bturn ?_ ‹_› ?_) | go_size)) hb; have q3 : w'.cell? ⟨w.heap.size, 3, none⟩ = some (.string q) := (K1.out.step hb2).cell 3; have hrl2 : w1.heap.size ≤ rb := (by simp only [World.size_alloc, World.size_drew] at hrl; omega))
   | (go_at_call 136; refine (replace_any w1.heap.size _ _ _ (by with_reducible assumption) q (by omega) _ (by have := Blk.lt hrb; omega) hrb hrs).mono ?_; rw [hE]; rintro e w' ⟨rfl, hb⟩; have hbz : Below w.heap.size w w' := hb0.trans ((hb2.trans hb).mono (by omega))))
 all_goals
   go_wp2_with fail
   go_returns
   exact ⟨rfl, (by first | exact bdrewN (by (repeat' first | (with_reducible first | exact .refl _ _ | assumption | apply balloc | apply Below.drew | apply bset | refine bstep ?_ ‹_› | refine bturn ?_ ‹_› ?_) | go_size)) _ | (refine bdrewN ?_; (repeat' first | (with_reducible first | exact .refl _ _ | assumption | apply balloc | apply Below.drew | apply bset | refine bstep ?_ ‹_› | refine bturn ?_ ‹_› ?_) | go_size)) | exact ⟨(show Below w.heap.size w _ by (repeat' first | (with_reducible first | exact .refl _ _ | assumption | apply balloc | apply Below.drew | apply bset | refine bstep ?_ ‹_› | refine bturn ?_ ‹_› ?_) | go_size)).os, (show Below w.heap.size w _ by (repeat' first | (with_reducible first | exact .refl _ _ | assumption | apply balloc | apply Below.drew | apply bset | refine bstep ?_ ‹_› | refine bturn ?_ ‹_› ?_) | go_size)).tape, (show Below w.heap.size w _ by (repeat' first | (with_reducible first | exact .refl _ _ | assumption | apply balloc | apply Below.drew | apply bset | refine bstep ?_ ‹_› | refine bturn ?_ ‹_› ?_) | go_size)).output, (show Below w.heap.size w _ by (repeat' first | (with_reducible first | exact .refl _ _ | assumption | apply balloc | apply Below.drew | apply bset | refine bstep ?_ ‹_› | refine bturn ?_ ‹_› ?_) | go_size)).size, (show Below w.heap.size w _ by (repeat' first | (with_reducible first | exact .refl _ _ | assumption | apply balloc | apply Below.drew | apply bset | refine bstep ?_ ‹_› | refine bturn ?_ ‹_› ?_) | go_size)).block⟩)⟩
end
/-- What value.Text writes for a sound value. -/
theorem vtext_any (v : Vl) (hv : vSound v) (m : Int) (w : World) (hw : OKW m w) :
   Calls Tryz.prog 91 #[.agg (cellsV v)] w fun e w' => e = .returned (.tuple #[.string (bs (vtxt v)), .int .i64 0]) ∧ Below w.heap.size w w' := by
 have KS : Hid (∀ W, Below w.heap.size w W → Calls Tryz.prog 32 #[.agg (cellsV v)] W fun e w' => e = .returned (.bool true) ∧ Below W.heap.size W w') := Lib.hid fun W hb => by
   have := vs_any v.k v.n v.s (bs v.t) v.m (vs_ok hv).n (vs_ok hv).s m W (hw.step hb)
   rw [(vs_iff v).2 hv] at this
   exact this
 obtain ⟨k, n, s, t, mm⟩ := v
 rcases hv with h | h | h | h | h
 · obtain ⟨h0, _⟩ := h
   simp only at h0
   subst h0
   exact vt_0 n s mm (bs t) w KS
 · obtain ⟨h0, h1, _⟩ := h
   simp only at h0 h1
   subst h0
   obtain ⟨b1, b2, b3, b4, _⟩ := sound_bd h1
   have e1 : (dT n s).2 = 0 := by unfold dT; rw [if_pos h1]
   refine vt_1 n s mm (bs t) w (bs (dT n s).1) KS (Lib.hid fun W hb => ?_)
   have := dtext n s ⟨by omega, by omega⟩ ⟨by omega, by omega⟩ W (hw.step hb).tab
   rw [e1] at this
   exact this
 · obtain ⟨h0, _, _, _, h1, _⟩ := h
   simp only at h0 h1
   subst h0
   have h2 := escB_two t
   have hd : (bs t).data.toList = t := rfl
   have := vt_2 n s mm (bs t) w (bs (escB t)) (by rw [bs_size]; omega) (by rw [hd]) (by rw [bs_size]; omega) KS
   have e : ((⟨#[34]⟩ : ByteArray) ++ bs (escB t)) ++ ⟨#[34]⟩ = bs (34 :: (escB t ++ [34])) := by
     rw [show (⟨#[34]⟩ : ByteArray) = bs [34] from rfl, bs_app, bs_app]
     rfl
   rw [e] at this
   exact this
 · obtain ⟨h0, _, _, _, h1⟩ := h
   simp only at h0 h1
   subst h0
   rcases h1 with rfl | rfl
   · exact vt_3f n s (bs t) w KS
   · exact vt_3t n s (bs t) w KS
 · obtain ⟨h0, _, _, _, h1, h2⟩ := h
   simp only at h0 h1 h2
   subst h0
   obtain ⟨hl, hy, _⟩ := yT_spec mm
   have e1 : (yT mm).2 = 0 := by
     obtain ⟨l, _, _, lt, _⟩ := Days.text_read mm h1 h2
     exact (yT_eq m w hw mm (lt w hw.tab)).2
   have := vt_4 n s mm (bs t) w (bs (yT mm).1) (by rw [bs_size]; omega) KS (Lib.hid fun W hb => by
     have := hy W (hw.step hb).tab
     rw [e1] at this
     exact this)
   have e : ((⟨#[64, 34]⟩ : ByteArray) ++ bs (yT mm).1) ++ ⟨#[34]⟩ = bs (64 :: 34 :: ((yT mm).1 ++ [34])) := by
     rw [show (⟨#[64, 34]⟩ : ByteArray) = bs [64, 34] from rfl, show (⟨#[34]⟩ : ByteArray) = bs [34] from rfl, bs_app, bs_app]
     rfl
   rw [e] at this
   exact this
end Go.Proofs.YtapilekangmcoaaGreatDoor
namespace Go.Proofs.YtapilekangmcoaaGreatDoor
open Go.RowKit
theorem expr_u8 : (33 : TypeId) ≠ 5 := by decide
theorem ptr_u8 : (86 : TypeId) ≠ 5 := by decide
theorem isb_lt {B b : Nat} {o : Bs} {w : World} (h : IsB B b o w) : b < w.heap.size := by
 rcases h with ⟨_, v, h2, _⟩ | ⟨_, v, h2, _⟩ <;> exact (Array.getElem?_eq_some_iff.1 h2).1
/-- What is asked of write at an expression. -/
def WrC (w0 : World) (N : Nat) (x : Ex) : Prop := ∀ (cs : Array Value) (b : Nat) (o : Bs) (w : World), XM (fun _ => True) w0 x cs → Below w0.heap.size w0 w → IsB w0.heap.size b o w → o.length + (etxt x).length ≤ N →
 Calls Tryz.prog 63 #[.agg cs, .pointer (some ⟨b, 0, none⟩)] w fun e w' => e = .returned (.tuple #[]) ∧ IsB w0.heap.size b (o ++ etxt x) w' ∧ Below w0.heap.size w0 w' ∧ Kp b w w'
theorem part_any (ko kk kn ks : Int) (kq : ByteArray) (km : Int) (kr : ByteArray) (kB : Option Addr) (n kc P b : Nat) (o T : Bs) (w0 w : World) (N : Nat) (hN : N ≤ 990000000) (hb : Below w0.heap.size w0 w) (hB : IsB w0.heap.size b o w) (hP : w.cell? ⟨P, 0, none⟩ = some (.pointer (some ⟨b, 0, none⟩))) (hl : o.length + (T.length + 2) ≤ N)
   (KW : Hid (∀ W o, Below w0.heap.size w0 W → IsB w0.heap.size b o W → o.length + T.length ≤ N → Calls Tryz.prog 63 #[.agg #[.int .i64 ko, .int .i64 kk, .int .i64 kn, .int .i64 ks, .string kq, .int .i64 km, .string kr, .slice kB n kc], .pointer (some ⟨b, 0, none⟩)] W fun e w' => e = .returned (.tuple #[]) ∧ IsB w0.heap.size b (o ++ T) w' ∧ Below w0.heap.size w0 w' ∧ Kp b W w')) (PT : TypeId) (hPB : Blk w P PT #[.pointer (some ⟨b, 0, none⟩)]) (hPT : PT ≠ 5) (hPb : P ≠ b) :
   Calls Tryz.prog 89 #[.agg #[.int .i64 ko, .int .i64 kk, .int .i64 kn, .int .i64 ks, .string kq, .int .i64 km, .string kr, .slice kB n kc], .pointer (some ⟨P, 0, none⟩)] w fun e w' => e = .returned (.tuple #[]) ∧ IsB w0.heap.size b (o ++ (if n = 0 then T else 40 :: (T ++ [41]))) w' ∧ Below w0.heap.size w0 w' ∧ Kp b w w' := by
 have hbl := isb_lt hB
 have hPl := hPB.lt
 have hllP := lts hPl
 have HB := Lib.hid hB
 have HBE := Lib.hid hb
 have HL := Lib.hid hl
 have hwz := hb.size
 have k0 : Blk (w.alloc (.cells #[.int .i64 ko, .int .i64 kk, .int .i64 kn, .int .i64 ks, .string kq, .int .i64 km, .string kr, .slice kB n kc] 33)) w.heap.size 33 #[.int .i64 ko, .int .i64 kk, .int .i64 kn, .int .i64 ks, .string kq, .int .i64 km, .string kr, .slice kB n kc] := Blk.new _ _ _
 have hA : Below w.heap.size w (w.alloc (.cells #[.int .i64 ko, .int .i64 kk, .int .i64 kn, .int .i64 ks, .string kq, .int .i64 km, .string kr, .slice kB n kc] 33)) := by (repeat' first | (with_reducible first | exact .refl _ _ | assumption | apply balloc | apply Below.drew | apply bset | refine bstep ?_ ‹_› | refine bturn ?_ ‹_› ?_) | go_size)
 have hs1 : (w.alloc (.cells #[.int .i64 ko, .int .i64 kk, .int .i64 kn, .int .i64 ks, .string kq, .int .i64 km, .string kr, .slice kB n kc] 33)).heap.size = w.heap.size + 1 := by simp
 have hP1 := hPB.step hA
 have B1 := Lib.hid (isb_below hB hA)
 have E1 := Lib.hid (bstep hb hA)
 have Q1 := Lib.hid (Kp.of hA : Kp b w _)
 clear hb hB hP hl hPB
 by_cases hn : n = 0
 · subst hn
   rw [if_pos rfl]
   go_enter Tryz.func89, Tryz.ntmps89
   go_upto_region 1 with fail
   generalize (w.alloc (.cells #[.int .i64 ko, .int .i64 kk, .int .i64 kn, .int .i64 ks, .string kq, .int .i64 km, .string kr, .slice kB 0 kc] 33)) = w1 at *
   obtain ⟨hlx, hllx, qx0, qx1, qx2, qx3, qx4, qx5, qx6, qx7, zx0, zx1, zx2, zx3, zx4, zx5, zx6, zx7⟩ := bf8 k0; (try simp at qx0 qx1 qx2 qx3 qx4 qx5 qx6 qx7); have Hk0 := Lib.hid k0; clear k0
   have hlp := hP1.lt; have hllp := lts hlp; have qp0 := hP1.cell 0; simp at qp0; have zp0 := hP1.frozen 0; have HhP1 := Lib.hid hP1; clear hP1
   go_wp2_with fail
   refine (KW.out _ o E1.out B1.out (by have := HL.out; omega)).mono ?_
   rintro e w2 ⟨rfl, h2, hb2, hk2⟩
   go_wp2_with fail
   go_returns
   exact ⟨rfl, h2, hb2, Q1.out.trans hk2⟩
 · rw [if_neg hn]
   have hni : ((n : Int) == 0) = false := by rw [beq_eq_false_iff_ne]; omega
   go_enter Tryz.func89, Tryz.ntmps89
   go_upto_region 1 with fail
   generalize (w.alloc (.cells #[.int .i64 ko, .int .i64 kk, .int .i64 kn, .int .i64 ks, .string kq, .int .i64 km, .string kr, .slice kB n kc] 33)) = w1 at *
   have K0 := Lib.hid k0
   have HP1 := Lib.hid hP1
   obtain ⟨hlx, hllx, qx0, qx1, qx2, qx3, qx4, qx5, qx6, qx7, zx0, zx1, zx2, zx3, zx4, zx5, zx6, zx7⟩ := bf8 k0; (try simp at qx0 qx1 qx2 qx3 qx4 qx5 qx6 qx7); have Hk0 := Lib.hid k0; clear k0
   have hlp := hP1.lt; have hllp := lts hlp; have qp0 := hP1.cell 0; simp at qp0; have zp0 := hP1.frozen 0; have HhP1 := Lib.hid hP1; clear hP1
   go_wp2_with fail
   refine (byte_w w0.heap.size b o 40 40 rfl _ B1.out (by have := HL.out; omega) (by omega)).mono ?_
   rintro e w2 ⟨rfl, h2, hb2, hk2⟩
   have E2 := Lib.hid (E1.out.trans hb2)
   have K2 := hk2.row _ _ _ expr_u8 (by omega) K0.out
   have P2 := hk2.row _ _ _ hPT hPb HP1.out
   have HP2 := Lib.hid P2
   have hz2 := hk2.size
   clear qx0 qx1 qx2 qx3 qx4 qx5 qx6 qx7 zx0 zx1 zx2 zx3 zx4 zx5 zx6 zx7 hlx hllx qp0 zp0 hlp hllp hb2
   obtain ⟨hlx, hllx, qx0, qx1, qx2, qx3, qx4, qx5, qx6, qx7, zx0, zx1, zx2, zx3, zx4, zx5, zx6, zx7⟩ := bf8 K2; (try simp at qx0 qx1 qx2 qx3 qx4 qx5 qx6 qx7); have HK2 := Lib.hid K2; clear K2
   have hlp := P2.lt; have hllp := lts hlp; have qp0 := P2.cell 0; simp at qp0; have zp0 := P2.frozen 0; have HP2 := Lib.hid P2; clear P2
   go_wp2_with fail
   refine (KW.out _ _ E2.out h2 (by have := HL.out; simp; omega)).mono ?_
   rintro e w3 ⟨rfl, h3, hb3, hk3⟩
   have P3 := hk3.row _ _ _ hPT hPb HP2.out
   have hz3 := hk3.size
   clear qx0 qx1 qx2 qx3 qx4 qx5 qx6 qx7 zx0 zx1 zx2 zx3 zx4 zx5 zx6 zx7 hlx hllx qp0 zp0 hlp hllp
   have hlp := P3.lt; have hllp := lts hlp; have qp0 := P3.cell 0; simp at qp0; have zp0 := P3.frozen 0; have HP3 := Lib.hid P3; clear P3
   go_wp2_with fail
   refine (byte_w w0.heap.size b _ 41 41 rfl _ h3 (by have := HL.out; simp; omega) (by omega)).mono ?_
   rintro e w4 ⟨rfl, h4, hb4, hk4⟩
   clear qp0 zp0 hlp hllp
   go_wp2_with fail
   go_returns
   exact ⟨rfl, by simpa using h4, hb3.trans hb4, ((Q1.out.trans hk2).trans hk3).trans hk4⟩
end Go.Proofs.YtapilekangmcoaaGreatDoor
namespace Go.Proofs.YtapilekangmcoaaGreatDoor
open Go.RowKit
theorem write_val (vk vn vs vm : Int) (q r : ByteArray) (A : Option Addr) (c b : Nat) (o : Bs) (w0 w : World) (N : Nat) (hN : N ≤ 990000000) (hb : Below w0.heap.size w0 w) (hB : IsB w0.heap.size b o w) (n : Nat) (t : ByteArray) (hl : o.length + t.size ≤ N)
   (KV : Hid (∀ W, Below w0.heap.size w0 W → Calls Tryz.prog 91 #[.agg #[.int .i64 vk, .int .i64 vn, .int .i64 vs, .string q, .int .i64 vm]] W fun e w' => e = .returned (.tuple #[.string t, .int .i64 0]) ∧ Below W.heap.size W w')) :
   Calls Tryz.prog 63 #[.agg #[.int .i64 1, .int .i64 vk, .int .i64 vn, .int .i64 vs, .string q, .int .i64 vm, .string r, .slice A n c], .pointer (some ⟨b, 0, none⟩)] w fun e w' => e = .returned (.tuple #[]) ∧ IsB w0.heap.size b (o ++ t.data.toList) w' ∧ Below w0.heap.size w0 w' ∧ Kp b w w' := by
 have hbl := isb_lt hB
 have hwz := hb.size
 have hA : Below w.heap.size w (((w.alloc (.cells #[.int .i64 1, .int .i64 vk, .int .i64 vn, .int .i64 vs, .string q, .int .i64 vm, .string r, .slice A n c] 33)).alloc (.cells #[.pointer (some ⟨b, 0, none⟩)] 86))) := by (repeat' first | (with_reducible first | exact .refl _ _ | assumption | apply balloc | apply Below.drew | apply bset | refine bstep ?_ ‹_› | refine bturn ?_ ‹_› ?_) | go_size)
 have hs1 : (((w.alloc (.cells #[.int .i64 1, .int .i64 vk, .int .i64 vn, .int .i64 vs, .string q, .int .i64 vm, .string r, .slice A n c] 33)).alloc (.cells #[.pointer (some ⟨b, 0, none⟩)] 86))).heap.size = w.heap.size + 2 := by simp
 have K1 := Lib.hid ((Blk.new _ _ _).alloc _ : Blk (((w.alloc (.cells #[.int .i64 1, .int .i64 vk, .int .i64 vn, .int .i64 vs, .string q, .int .i64 vm, .string r, .slice A n c] 33)).alloc (.cells #[.pointer (some ⟨b, 0, none⟩)] 86))) w.heap.size 33 #[.int .i64 1, .int .i64 vk, .int .i64 vn, .int .i64 vs, .string q, .int .i64 vm, .string r, .slice A n c])
 have P1 := Lib.hid (Blk.new' _ _ _ (by simp) : Blk (((w.alloc (.cells #[.int .i64 1, .int .i64 vk, .int .i64 vn, .int .i64 vs, .string q, .int .i64 vm, .string r, .slice A n c] 33)).alloc (.cells #[.pointer (some ⟨b, 0, none⟩)] 86))) (w.heap.size + 1) 86 #[.pointer (some ⟨b, 0, none⟩)])
 have B1 := Lib.hid (isb_below hB hA)
 have E1 := Lib.hid (bstep hb hA)
 have Q1 := Lib.hid (Kp.of hA : Kp b w (((w.alloc (.cells #[.int .i64 1, .int .i64 vk, .int .i64 vn, .int .i64 vs, .string q, .int .i64 vm, .string r, .slice A n c] 33)).alloc (.cells #[.pointer (some ⟨b, 0, none⟩)] 86))))
 clear hb hB
 go_enter Tryz.func63, Tryz.ntmps63
 go_upto_region 2 with fail
 generalize ((w.alloc (.cells #[.int .i64 1, .int .i64 vk, .int .i64 vn, .int .i64 vs, .string q, .int .i64 vm, .string r, .slice A n c] 33)).alloc (.cells #[.pointer (some ⟨b, 0, none⟩)] 86)) = w1 at *
 have k1 := K1.out
 have p1 := P1.out
 obtain ⟨hlx, hllx, qx0, qx1, qx2, qx3, qx4, qx5, qx6, qx7, zx0, zx1, zx2, zx3, zx4, zx5, zx6, zx7⟩ := bf8 k1; (try simp at qx0 qx1 qx2 qx3 qx4 qx5 qx6 qx7); have Hk1 := Lib.hid k1; clear k1
 have hlp := p1.lt; have hllp := lts hlp; have qp0 := p1.cell 0; simp at qp0; have zp0 := p1.frozen 0; have Hp1 := Lib.hid p1; clear p1
 go_wp2_with fail
 refine (KV.out _ E1.out).mono ?_
 rintro e w2 ⟨rfl, hb2⟩
 have B2 := Lib.hid (isb_below B1.out hb2)
 have E2 := Lib.hid (bstep E1.out hb2)
 have Q2 := Lib.hid (Q1.out.trans (Kp.of hb2))
 have K2 := Lib.hid (K1.out.step hb2)
 have P2 := Lib.hid (P1.out.step hb2)
 have hz2 := hb2.size
 have p2 := P2.out
 clear qx0 qx1 qx2 qx3 qx4 qx5 qx6 qx7 zx0 zx1 zx2 zx3 zx4 zx5 zx6 zx7 hlx hllx
 clear qp0 zp0 hlp hllp
 have hlp := p2.lt; have hllp := lts hlp; have qp0 := p2.cell 0; simp at qp0; have zp0 := p2.frozen 0; have Hp2 := Lib.hid p2; clear p2
 go_wp2_with fail
 refine (str_w w0.heap.size b _ t _ B2.out (by omega) (by omega)).mono ?_
 rintro e w3 ⟨rfl, h3, hb3, hk3⟩
 have E3 := Lib.hid (E2.out.trans hb3)
 have Q3 := Lib.hid (Q2.out.trans hk3)
 have K3 := Lib.hid (hk3.row _ _ _ expr_u8 (by omega) K2.out)
 have P3 := Lib.hid (hk3.row _ _ _ ptr_u8 (by omega) P2.out)
 have hz3 := hk3.size
 go_wp2_with fail
 go_returns
 exact ⟨rfl, h3, E3.out, Q3.out⟩
theorem write_name (vk vn vs vm : Int) (q r : ByteArray) (A : Option Addr) (c b : Nat) (o : Bs) (w0 w : World) (N : Nat) (hN : N ≤ 990000000) (hb : Below w0.heap.size w0 w) (hB : IsB w0.heap.size b o w) (n : Nat) (hl : o.length + r.size ≤ N) :
   Calls Tryz.prog 63 #[.agg #[.int .i64 2, .int .i64 vk, .int .i64 vn, .int .i64 vs, .string q, .int .i64 vm, .string r, .slice A n c], .pointer (some ⟨b, 0, none⟩)] w fun e w' => e = .returned (.tuple #[]) ∧ IsB w0.heap.size b (o ++ r.data.toList) w' ∧ Below w0.heap.size w0 w' ∧ Kp b w w' := by
 have hbl := isb_lt hB
 have hwz := hb.size
 have hA : Below w.heap.size w (((w.alloc (.cells #[.int .i64 2, .int .i64 vk, .int .i64 vn, .int .i64 vs, .string q, .int .i64 vm, .string r, .slice A n c] 33)).alloc (.cells #[.pointer (some ⟨b, 0, none⟩)] 86))) := by (repeat' first | (with_reducible first | exact .refl _ _ | assumption | apply balloc | apply Below.drew | apply bset | refine bstep ?_ ‹_› | refine bturn ?_ ‹_› ?_) | go_size)
 have hs1 : (((w.alloc (.cells #[.int .i64 2, .int .i64 vk, .int .i64 vn, .int .i64 vs, .string q, .int .i64 vm, .string r, .slice A n c] 33)).alloc (.cells #[.pointer (some ⟨b, 0, none⟩)] 86))).heap.size = w.heap.size + 2 := by simp
 have K1 := Lib.hid ((Blk.new _ _ _).alloc _ : Blk (((w.alloc (.cells #[.int .i64 2, .int .i64 vk, .int .i64 vn, .int .i64 vs, .string q, .int .i64 vm, .string r, .slice A n c] 33)).alloc (.cells #[.pointer (some ⟨b, 0, none⟩)] 86))) w.heap.size 33 #[.int .i64 2, .int .i64 vk, .int .i64 vn, .int .i64 vs, .string q, .int .i64 vm, .string r, .slice A n c])
 have P1 := Lib.hid (Blk.new' _ _ _ (by simp) : Blk (((w.alloc (.cells #[.int .i64 2, .int .i64 vk, .int .i64 vn, .int .i64 vs, .string q, .int .i64 vm, .string r, .slice A n c] 33)).alloc (.cells #[.pointer (some ⟨b, 0, none⟩)] 86))) (w.heap.size + 1) 86 #[.pointer (some ⟨b, 0, none⟩)])
 have B1 := Lib.hid (isb_below hB hA)
 have E1 := Lib.hid (bstep hb hA)
 have Q1 := Lib.hid (Kp.of hA : Kp b w (((w.alloc (.cells #[.int .i64 2, .int .i64 vk, .int .i64 vn, .int .i64 vs, .string q, .int .i64 vm, .string r, .slice A n c] 33)).alloc (.cells #[.pointer (some ⟨b, 0, none⟩)] 86))))
 clear hb hB
 go_enter Tryz.func63, Tryz.ntmps63
 go_upto_region 2 with fail
 generalize ((w.alloc (.cells #[.int .i64 2, .int .i64 vk, .int .i64 vn, .int .i64 vs, .string q, .int .i64 vm, .string r, .slice A n c] 33)).alloc (.cells #[.pointer (some ⟨b, 0, none⟩)] 86)) = w1 at *
 have k1 := K1.out
 have p1 := P1.out
 obtain ⟨hlx, hllx, qx0, qx1, qx2, qx3, qx4, qx5, qx6, qx7, zx0, zx1, zx2, zx3, zx4, zx5, zx6, zx7⟩ := bf8 k1; (try simp at qx0 qx1 qx2 qx3 qx4 qx5 qx6 qx7); have Hk1 := Lib.hid k1; clear k1
 have hlp := p1.lt; have hllp := lts hlp; have qp0 := p1.cell 0; simp at qp0; have zp0 := p1.frozen 0; have Hp1 := Lib.hid p1; clear p1
 go_wp2_with fail
 refine (str_w w0.heap.size b _ r _ B1.out (by omega) (by omega)).mono ?_
 rintro e w2 ⟨rfl, h2, hb2, hk2⟩
 have E2 := Lib.hid (E1.out.trans hb2)
 have Q2 := Lib.hid (Q1.out.trans hk2)
 have K2 := Lib.hid (hk2.row _ _ _ expr_u8 (by omega) K1.out)
 have P2 := Lib.hid (hk2.row _ _ _ ptr_u8 (by omega) P1.out)
 have hz2 := hk2.size
 go_wp2_with fail
 go_returns
 exact ⟨rfl, h2, E2.out, Q2.out⟩
theorem write_neg (vk vn vs vm : Int) (q r : ByteArray) (A : Option Addr) (c b : Nat) (o : Bs) (w0 w : World) (N : Nat) (hN : N ≤ 990000000) (hb : Below w0.heap.size w0 w) (hB : IsB w0.heap.size b o w) (L : List Ex) (y : Ex) (hy : L[0]? = some y) (hk : KD w0 A L) (L1 : L.length = 1) (KW : WrC w0 N y) (hl : o.length + ((etxt y).length + 10) ≤ N) :
   Calls Tryz.prog 63 #[.agg #[.int .i64 3, .int .i64 vk, .int .i64 vn, .int .i64 vs, .string q, .int .i64 vm, .string r, .slice A L.length c], .pointer (some ⟨b, 0, none⟩)] w fun e w' => e = .returned (.tuple #[]) ∧ IsB w0.heap.size b (o ++ 45 :: brT y.kids (etxt y)) w' ∧ Below w0.heap.size w0 w' ∧ Kp b w w' := by
 obtain ⟨g, off, ko, kk, kn, ks, kq, km, kr, kB, kl, kc, rfl, hxm, KF⟩ := hk.get 0 y hy
 have HF := Lib.hid KF
 clear hk KF
 obtain ⟨T, hT⟩ : ∃ T, etxt y = T := ⟨_, rfl⟩
 have hkl : kl = y.kids.length := by
   obtain ⟨A2, c2, h⟩ := hxm.get
   simp only [Array.mk.injEq, List.cons.injEq, Value.slice.injEq] at h
   exact h.2.2.2.2.2.2.2.1.2.1
 have hbr : brT y.kids T = if kl = 0 then T else 40 :: (T ++ [41]) := by
   unfold brT
   rw [hkl]
   cases y.kids with
   | nil => rfl
   | cons a r => rfl
 have KW2 : Hid (∀ W o, Below w0.heap.size w0 W → IsB w0.heap.size b o W → o.length + T.length ≤ N → Calls Tryz.prog 63 #[.agg #[.int .i64 ko, .int .i64 kk, .int .i64 kn, .int .i64 ks, .string kq, .int .i64 km, .string kr, .slice kB kl kc], .pointer (some ⟨b, 0, none⟩)] W fun e w' => e = .returned (.tuple #[]) ∧ IsB w0.heap.size b (o ++ T) w' ∧ Below w0.heap.size w0 w' ∧ Kp b W w') := Lib.hid fun W o h1 h2 h3 => by
   have := KW _ b o W hxm h1 h2 (by rw [hT]; exact h3)
   rw [hT] at this
   exact this
 obtain ⟨Y, hY⟩ : ∃ Y, brT y.kids T = Y := ⟨_, rfl⟩
 rw [hY] at hbr
 have HY := Lib.hid hbr
 rw [hT] at hl
 rw [hT, hY]
 have h1i : (0 : Int) < (L.length : Int) := by omega
 have HLen := Lib.hid hl
 clear hxm hkl hbr hT hY KW hy hl L1
 have hbl := isb_lt hB
 have hwz := hb.size
 have hA : Below w.heap.size w (((w.alloc (.cells #[.int .i64 3, .int .i64 vk, .int .i64 vn, .int .i64 vs, .string q, .int .i64 vm, .string r, .slice (some ⟨g, off, none⟩) L.length c] 33)).alloc (.cells #[.pointer (some ⟨b, 0, none⟩)] 86))) := by (repeat' first | (with_reducible first | exact .refl _ _ | assumption | apply balloc | apply Below.drew | apply bset | refine bstep ?_ ‹_› | refine bturn ?_ ‹_› ?_) | go_size)
 have hs1 : (((w.alloc (.cells #[.int .i64 3, .int .i64 vk, .int .i64 vn, .int .i64 vs, .string q, .int .i64 vm, .string r, .slice (some ⟨g, off, none⟩) L.length c] 33)).alloc (.cells #[.pointer (some ⟨b, 0, none⟩)] 86))).heap.size = w.heap.size + 2 := by simp
 have K1 := Lib.hid ((Blk.new _ _ _).alloc _ : Blk (((w.alloc (.cells #[.int .i64 3, .int .i64 vk, .int .i64 vn, .int .i64 vs, .string q, .int .i64 vm, .string r, .slice (some ⟨g, off, none⟩) L.length c] 33)).alloc (.cells #[.pointer (some ⟨b, 0, none⟩)] 86))) w.heap.size 33 #[.int .i64 3, .int .i64 vk, .int .i64 vn, .int .i64 vs, .string q, .int .i64 vm, .string r, .slice (some ⟨g, off, none⟩) L.length c])
 have P1 := Lib.hid (Blk.new' _ _ _ (by simp) : Blk (((w.alloc (.cells #[.int .i64 3, .int .i64 vk, .int .i64 vn, .int .i64 vs, .string q, .int .i64 vm, .string r, .slice (some ⟨g, off, none⟩) L.length c] 33)).alloc (.cells #[.pointer (some ⟨b, 0, none⟩)] 86))) (w.heap.size + 1) 86 #[.pointer (some ⟨b, 0, none⟩)])
 have B1 := Lib.hid (isb_below hB hA)
 have E1 := Lib.hid (bstep hb hA)
 have Q1 := Lib.hid (Kp.of hA : Kp b w (((w.alloc (.cells #[.int .i64 3, .int .i64 vk, .int .i64 vn, .int .i64 vs, .string q, .int .i64 vm, .string r, .slice (some ⟨g, off, none⟩) L.length c] 33)).alloc (.cells #[.pointer (some ⟨b, 0, none⟩)] 86))))
 clear hb hB
 go_enter Tryz.func63, Tryz.ntmps63
 go_upto_region 2 with fail
 generalize ((w.alloc (.cells #[.int .i64 3, .int .i64 vk, .int .i64 vn, .int .i64 vs, .string q, .int .i64 vm, .string r, .slice (some ⟨g, off, none⟩) L.length c] 33)).alloc (.cells #[.pointer (some ⟨b, 0, none⟩)] 86)) = w1 at *
 have k1 := K1.out
 have p1 := P1.out
 obtain ⟨hlx, hllx, qx0, qx1, qx2, qx3, qx4, qx5, qx6, qx7, zx0, zx1, zx2, zx3, zx4, zx5, zx6, zx7⟩ := bf8 k1; (try simp at qx0 qx1 qx2 qx3 qx4 qx5 qx6 qx7); have Hk1 := Lib.hid k1; clear k1
 have hlp := p1.lt; have hllp := lts hlp; have qp0 := p1.cell 0; simp at qp0; have zp0 := p1.frozen 0; have Hp1 := Lib.hid p1; clear p1
 go_wp2_with fail
 refine (byte_w w0.heap.size b o 45 45 rfl _ B1.out (by have := HLen.out; omega) (by omega)).mono ?_
 rintro e w2 ⟨rfl, h2, hb2, hk2⟩
 have E2 := Lib.hid (E1.out.trans hb2)
 have Q2 := Lib.hid (Q1.out.trans hk2)
 have K2 := Lib.hid (hk2.row _ _ _ expr_u8 (by omega) K1.out)
 have P2 := Lib.hid (hk2.row _ _ _ ptr_u8 (by omega) P1.out)
 have hz2 := hk2.size
 clear qx0 qx1 qx2 qx3 qx4 qx5 qx6 qx7 zx0 zx1 zx2 zx3 zx4 zx5 zx6 zx7 hlx hllx
 clear qp0 zp0 hlp hllp
 have k2 := K2.out
 have p2 := P2.out
 obtain ⟨hlx, hllx, qx0, qx1, qx2, qx3, qx4, qx5, qx6, qx7, zx0, zx1, zx2, zx3, zx4, zx5, zx6, zx7⟩ := bf8 k2; (try simp at qx0 qx1 qx2 qx3 qx4 qx5 qx6 qx7); have Hk2 := Lib.hid k2; clear k2
 have hlp := p2.lt; have hllp := lts hlp; have qp0 := p2.cell 0; simp at qp0; have zp0 := p2.frozen 0; have Hp2 := Lib.hid p2; clear p2
 obtain ⟨y0, y1, y2, y3, y4, y5, y6, y7⟩ := HF.out
 replace y0 := keep1 E2.out y0
 replace y1 := keep1 E2.out y1
 replace y2 := keep1 E2.out y2
 replace y3 := keep1 E2.out y3
 replace y4 := keep1 E2.out y4
 replace y5 := keep1 E2.out y5
 replace y6 := keep1 E2.out y6
 replace y7 := keep1 E2.out y7
 simp only [Nat.zero_mul, Nat.add_zero] at y0 y1 y2 y3 y4 y5 y6 y7
 go_wp2_with fail
 refine (part_any ko kk kn ks kq km kr kB kl kc (w.heap.size + 1) b _ T w0 w2 N hN E2.out h2 qp0 (by have := HLen.out; simp; omega) KW2 _ P2.out ptr_u8 (by omega)).mono ?_
 rintro e w3 ⟨rfl, h3, hb3, hk3⟩
 clear y0 y1 y2 y3 y4 y5 y6 y7
 clear qx0 qx1 qx2 qx3 qx4 qx5 qx6 qx7 zx0 zx1 zx2 zx3 zx4 zx5 zx6 zx7 hlx hllx
 clear qp0 zp0 hlp hllp
 go_wp2_with fail
 go_returns
 exact ⟨rfl, by rw [HY.out]; simpa using h3, hb3, Q2.out.trans hk3⟩
end Go.Proofs.YtapilekangmcoaaGreatDoor
namespace Go.Proofs.YtapilekangmcoaaGreatDoor
open Go.ChangeShapes Go.WideShapes Go.ChangeAt Go.RowKit Go.Deep Go.Shelf
theorem cells_exp : Tryz.prog.cellsOf 33 = 8 := by kernel_rfl
theorem cells_exps : Tryz.prog.cellsOf 31 = 1 := by kernel_rfl
instance : Inhabited Ex := ⟨zeroE⟩
/-- What its numbers and lengths keep to. -/
inductive EOk : Ex → Prop
 | mk (o : Int) (v : Vl) (s : Bs) (kids : List Ex) (ho : I64 o) (hk : I64 v.k) (hv : VOk v) (ht : v.t.length ≤ maxLen) (hs : s.length ≤ maxLen) (hl : kids.length ≤ maxLen) (h : ∀ k ∈ kids, EOk k) : EOk (.mk o v s kids)
section
variable {H : Type} {enc : TypeId × Value → H} {w : World} {base : Nat} {spare : Nat → Bool} {held : Bool}
theorem expr_shape (fuel : Nat) : ∀ (cs : List Value) (x : DataW H × List MemPlace), DataW.trod enc Tryz.prog w base spare held fuel 33 cs = some x → ∃ e : Ex, XM (fun _ => True) w e cs.toArray ∧ EOk e := by
 induction fuel using Nat.strongRecOn with
 | ind fuel ih =>
   intro cs x h
   obtain ⟨xs, n, rfl, _, hl, hxl, hf⟩ := DataW.trod_struct Tryz.underlying33 h
   rw [cells_exp] at hl
   match cs, hl with
   | [c0, c1, c2, c3, c4, c5, c6, c7], _ =>
     match xs, hxl with
     | [y0, y1, y2, y3], _ =>
       have h0 := hf 0 _ rfl
       have h1 := hf 1 _ rfl
       have h2 := hf 2 _ rfl
       have h3 := hf 3 _ rfl
       simp only [cells_int, cells_val, cells_string, cells_exps, List.drop_zero, List.drop_succ_cons, List.take_succ_cons, List.take_zero, List.getElem?_cons_zero, List.getElem?_cons_succ] at h0 h1 h2 h3
       obtain ⟨o, e0, _, wo⟩ := DataW.trod_int Tryz.underlying3 h0
       obtain ⟨v, e1, hvk, hvo, hvt⟩ := val_shape h1
       obtain ⟨t, e2, _, wt⟩ := DataW.trod_string Tryz.underlying9 h2
       have hk : ∃ (A : Option Addr) (c : Nat) (kids : List Ex) (f : Nat → Array Value), [c7] = [.slice A kids.length c] ∧ kids.length ≤ maxLen ∧ (∀ i k, kids[i]? = some k → XM (fun _ => True) w k (f i) ∧ EOk k) ∧
           ∀ i k, kids[i]? = some k → ∃ g b, A = some ⟨g, b, none⟩ ∧ True ∧ ∀ j u, (f i)[j]? = some u → w.cell? ⟨g, b + i * 8 + j, none⟩ = some u := by
         rcases DataW.trod_slice Tryz.underlying31 h3 with ⟨hcs, _⟩ | ⟨a, len, cap, elems, rest, n', rfl, hcs, _, _, hlc, hm, hel, hi, _⟩
         · exact ⟨none, 0, [], fun _ => #[], hcs, by simp, (fun i k h => by simp at h), (fun i k h => by simp at h)⟩
         · have hex : ∀ i, i < len → ∃ q : Ex × List Value, XM (fun _ => True) w q.1 q.2.toArray ∧ EOk q.1 ∧ ∀ j, j < 8 → w.cell? ((a.add (i * 8)).add j) = q.2[j]? := fun i hil => by
             have hb := hi i hil
             rw [cells_exp] at hb
             have hel2 : elems[i]? = some (elems[i]'(by omega)) := List.getElem?_eq_getElem _
             rw [hel2] at hb
             obtain ⟨cs', hc, ht⟩ := Option.bind_eq_some_iff.1 hb
             obtain ⟨e, he, hok⟩ := ih n' (by omega) cs' _ ht
             obtain ⟨_, _, hat⟩ := World.cells?_some hc
             exact ⟨(e, cs'), he, hok, hat⟩
           obtain ⟨f, hfv⟩ := choose_lt hex
           refine ⟨some a, cap, (List.range len).map fun i => (f i).1, fun i => (f i).2.toArray, by
           have h9 : List.take (Tryz.prog.cellsOf 31) [c7] = [.slice (some a) len cap] := hcs
           rw [cells_exps] at h9
           simpa using h9, by simpa using Nat.le_trans hlc hm, fun i k hk => ?_, fun i k hk => ?_⟩
           · have hil : i < len := by
               have := (List.getElem?_eq_some_iff.1 hk).1
               simpa using this
             have hk' : (f i).1 = k := by simpa [hil] using hk
             subst hk'
             exact ⟨(hfv i hil).1, (hfv i hil).2.1⟩
           · have hil : i < len := by
               have := (List.getElem?_eq_some_iff.1 hk).1
               simpa using this
             have hc := (hfv i hil).2.2
             have hz8 : (f i).2.length = 8 := by simpa using (hfv i hil).1.size
             have hs : a.spot = none := by
               rcases Option.eq_none_or_eq_some a.spot with h | ⟨y, h⟩
               · exact h
               · exfalso
                 have hz0 : (f 0).2.length = 8 := by simpa using (hfv 0 (by omega)).1.size
                 have h2 := (hfv 0 (by omega)).2.2 0 (by decide)
                 have h3 : (f 0).2[0]? = some ((f 0).2[0]'(by omega)) := List.getElem?_eq_getElem _
                 rw [h3] at h2
                 simp [Addr.add, World.cell?, h] at h2
                 split at h2 <;> simp at h2
             obtain ⟨b, off, sp⟩ := a
             simp only at hs
             subst hs
             have e : ∀ j, ((⟨b, off, none⟩ : Addr).add (i * 8)).add j = ⟨b, off + i * 8 + j, none⟩ := fun j => by
               rw [add_add]
               unfold Addr.add
               split
               · next h => simp only [Addr.mk.injEq, and_true, true_and]; omega
               · simp only [Addr.mk.injEq, and_true, true_and]; omega
             refine ⟨b, off, rfl, trivial, fun j u hj => ?_⟩
             have hj2 : (f i).2[j]? = some u := by simpa using hj
             have hjn : j < 8 := by rw [← hz8]; exact (List.getElem?_eq_some_iff.1 hj2).1
             have := hc j hjn
             rw [e] at this
             rw [this]
             exact hj2
       obtain ⟨A, c, kids, f, e3, hkl, hkx, hkc⟩ := hk
       unfold cellsV at e1
       cases e0; cases e1; cases e2; cases e3
       refine ⟨.mk o v t.data.toList kids, ?_, .mk o v _ kids (lit_i64 wo) hvk hvo hvt (by simpa using wt) hkl fun k hk => ?_⟩
       · exact .mk o v t.data.toList kids A c f hkl (fun i k h => (hkx i k h).1) hkc
       · obtain ⟨i, hi⟩ := List.mem_iff_getElem?.1 hk
         exact (hkx i k hi).2
/-- An expression that came in. -/
theorem open_expr {r : Reach} {b0 : Nat} {v : Value} {d : DataW H} {p : List MemPlace} (hv : Value.okWide Tryz.prog w r b0 33 v) (h : DataW.Trod enc Tryz.prog w base spare held 33 v d p) :
   ∃ (e : Ex) (cs : Array Value), v = .agg cs ∧ XM (fun _ => True) w e cs ∧ EOk e := by
 obtain ⟨cs, rfl, hsz⟩ := okWide_struct Tryz.underlying33 hv
 obtain ⟨fuel, hf⟩ := h
 obtain ⟨e, h1, h2⟩ := expr_shape fuel _ _ hf
 exact ⟨e, cs, rfl, (by simpa using h1 : XM (fun _ => True) w e (Value.agg cs).cells), h2⟩
end
end Go.Proofs.YtapilekangmcoaaGreatDoor
