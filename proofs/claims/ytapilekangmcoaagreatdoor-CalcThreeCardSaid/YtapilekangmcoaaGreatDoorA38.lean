/- What expr.Parser's Expr, chain and prefix read, for every text. The walk of expr.Parse, for every text. -/
import Derived.Test.YtapilekangmcoaaGreatDoorA34
import Derived.Test.YtapilekangmcoaaGreatDoorA35
import Derived.Test.YtapilekangmcoaaGreatDoorA36
import Derived.Test.YtapilekangmcoaaGreatDoorA37
import Derived.Test.YtapilekangmcoaaGreatDoorA23
set_option linter.unusedVariables false
set_option linter.unusedSimpArgs false
set_option maxHeartbeats 8000000
set_option maxRecDepth 100000
namespace Go.Proofs.YtapilekangmcoaaGreatDoor
open Go.RowKit
theorem md_bd {p : PS} {c : Int} {k : Nat} (h : Rm c k p) (hc : 0 ≤ c) : 0 ≤ p.md ∧ p.md ≤ 200000 := ⟨h.lo, by have := h.md; have := h.le; have := h.big; omega⟩
theorem expr_all (f : Nat) (HE : ExprC f) (HC : ChainC f) : ExprC (f + 1) := by
 intro b A c p d k w h hR hf hd
 by_cases hd64 : 64 < d
 · obtain ⟨e1, e2⟩ := deep_hi (p := p) hd64
   have hE : exprF wordB (f + 1) p d = chainF wordB f (p.fail 9) d 0 := by
     rw [expr_else (by rw [e1]; exact fun h => e2 h.1), e1]
   rw [hE]
   exact expr_1 b A c p (p.fail 9) _ d w h (.inl ⟨hd64, rfl⟩) (((fw_all wordB f).2.1 (p.fail 9) d 0).L.trans (fail_L _ _)) (Lib.hid fun W hW => HC b A c (p.fail 9) d 0 k W hW (hR.fail 9) (by omega) (by omega) hd)
 · have e1 := deep_lo (p := p) hd64
   by_cases he : p.e = 0
   · cases hi : p.isS bIf with
     | false =>
       have hE : exprF wordB (f + 1) p d = chainF wordB f p d 0 := by
         rw [expr_else (by rw [e1, hi]; exact fun h => Bool.noConfusion h.2), e1]
       rw [hE]
       exact expr_1 b A c p p _ d w h (.inr (.inr ⟨hd64, he, hi, rfl⟩)) ((fw_all wordB f).2.1 p d 0).L (Lib.hid fun W hW => HC b A c p d 0 k W hW hR (by omega) (by omega) hd)
     | true =>
       have hn := (isS_ltw hi).1
       have hk := hR.pos hn
       have R1 : Rm 1 (k - 1) p.adv := hR.adv hn
       have R2 : Rm 1 (k - 1) (exprF wordB f p.adv d).2 := R1.expr f d
       have R3 := R2.need bThen
       have R4 : Rm 1 (k - 1) (exprF wordB f ((exprF wordB f p.adv d).2.need bThen) d).2 := R3.expr f d
       have R5 := R4.need bElse
       have R6 : Rm 1 (k - 1) (exprF wordB f ((exprF wordB f ((exprF wordB f p.adv d).2.need bThen) d).2.need bElse) d).2 := R5.expr f d
       obtain ⟨m0, m1⟩ := md_bd R6 (by decide)
       have hL : (exprF wordB f ((exprF wordB f ((exprF wordB f p.adv d).2.need bThen) d).2.need bElse) d).2.L = p.L := by
         rw [((fw_all wordB f).1 _ d).L, need_L, ((fw_all wordB f).1 _ d).L, need_L, ((fw_all wordB f).1 _ d).L]
         rfl
       have hE : exprF wordB (f + 1) p d = (.mk 17 zeroV [] [(exprF wordB f p.adv d).1, (exprF wordB f ((exprF wordB f p.adv d).2.need bThen) d).1, (exprF wordB f ((exprF wordB f ((exprF wordB f p.adv d).2.need bThen) d).2.need bElse) d).1], (exprF wordB f ((exprF wordB f ((exprF wordB f p.adv d).2.need bThen) d).2.need bElse) d).2.made) := by
         rw [exprF, e1, if_pos ⟨he, hi⟩]
       rw [hE]
       exact expr_2 b A c p _ _ _ _ _ _ _ _ _ d w h hd64 he hi rfl rfl rfl m0 m1 hL
         (Lib.hid fun W hW => HE b A c p.adv d (k - 1) W hW R1.less (by omega) (by omega))
         (Lib.hid fun W hW => HE b A c _ d (k - 1) W hW R3.less (by omega) (by omega))
         (Lib.hid fun W hW => HE b A c _ d (k - 1) W hW R5.less (by omega) (by omega))
   · have hE : exprF wordB (f + 1) p d = chainF wordB f p d 0 := by
       rw [expr_else (by rw [e1]; exact fun h => he h.1), e1]
     rw [hE]
     exact expr_1 b A c p p _ d w h (.inr (.inl ⟨hd64, he, rfl⟩)) ((fw_all wordB f).2.1 p d 0).L (Lib.hid fun W hW => HC b A c p d 0 k W hW hR (by omega) (by omega) hd)
theorem chain_all (f : Nat) (HP : PrefC f) (HC : Hid (∀ j, j ≤ f → ChainC j)) : ChainC (f + 1) := by
 intro b A c p d n k w h hR hn hf hd
 by_cases h5 : n = 5
 · subst h5
   have hE : chainF wordB (f + 1) p d 5 = prefixF wordB f p d := by rw [chainF, if_pos (by decide)]
   rw [hE]
   exact chain_5 b A c p _ d w h ((fw_all wordB f).2.2.2 p d).L (Lib.hid fun W hW => HP b A c p d k W hW hR (by omega) hd)
 · exact chain_lo f HC b A c p d n (n + 1) k w h hR (by omega) rfl (by omega) hd
theorem pref_all (f : Nat) (HE : ExprC f) (HP : PrefC f) : PrefC (f + 1) := by
 intro b A c p d k w h hR hf hd
 by_cases he : p.e = 0
 · cases h1 : p.isS [45] with
   | true =>
     have hn := (isS_ltw h1).1
     have hk := hR.pos hn
     have R1 : Rm 1 (k - 1) p.adv := hR.adv hn
     have R2 : Rm 1 (k - 1) (prefixF wordB f p.adv d).2 := R1.prefix_ f d
     obtain ⟨m0, m1⟩ := md_bd R2 (by decide)
     have hE : prefixF wordB (f + 1) p d = (.mk 3 zeroV [] [(prefixF wordB f p.adv d).1], (prefixF wordB f p.adv d).2.made) := by
       rw [prefixF, if_pos he, if_pos h1]
     rw [hE]
     exact pref_1 b A c p p.adv _ _ d w h he h1 rfl m0 m1 ((fw_all wordB f).2.2.2 p.adv d).L (Lib.hid fun W hW => HP b A c p.adv d (k - 1) W hW R1.less (by omega) (by omega))
   | false =>
     cases h2 : p.isS [40] with
     | true =>
       have hn := (isS_ltw h2).1
       have hk := hR.pos hn
       have R1 : Rm 1 (k - 1) p.adv := hR.adv hn
       have hE : prefixF wordB (f + 1) p d = ((exprF wordB f p.adv (d + 1)).1, (exprF wordB f p.adv (d + 1)).2.need [41]) := by
         rw [prefixF, if_pos he, if_neg (by rw [h1]; decide), if_pos h2]
       rw [hE]
       exact pref_2 b A c p p.adv _ _ _ d (d + 1) w h he h1 h2 rfl rfl ((fw_all wordB f).1 p.adv (d + 1)).L (by omega) rfl (Lib.hid fun W hW => HE b A c p.adv (d + 1) (k - 1) W hW R1.less (by omega) (by omega))
     | false =>
       cases h3 : p.isS bNot with
       | true =>
         have hn := (isS_ltw h3).1
         have hk := hR.pos hn
         have R1 : Rm 1 (k - 1) p.adv := hR.adv hn
         have R2 := R1.need [40]
         have R3 : Rm 1 (k - 1) (exprF wordB f (p.adv.need [40]) (d + 1)).2 := R2.expr f (d + 1)
         have R4 := R3.need [41]
         obtain ⟨m0, m1⟩ := md_bd R4 (by decide)
         have hE : prefixF wordB (f + 1) p d = (.mk 16 zeroV [] [(exprF wordB f (p.adv.need [40]) (d + 1)).1], ((exprF wordB f (p.adv.need [40]) (d + 1)).2.need [41]).made) := by
           rw [prefixF, if_pos he, if_neg (by rw [h1]; decide), if_neg (by rw [h2]; decide), if_pos h3]
         rw [hE]
         exact pref_3 b A c p p.adv _ _ _ _ d (d + 1) w h he h1 h2 h3 rfl rfl rfl (((fw_all wordB f).1 _ (d + 1)).L.trans (need_L _ _)) (by omega) rfl m0 m1 (Lib.hid fun W hW => HE b A c _ (d + 1) (k - 1) W hW R2.less (by omega) (by omega))
       | false =>
         obtain ⟨m0, m1⟩ := md_bd hR (by decide)
         cases hv : p.val with
         | some v =>
           obtain ⟨vk, vn, vs, vt, vm⟩ := v
           have hE : prefixF wordB (f + 1) p d = (.mk 1 ⟨vk, vn, vs, vt, vm⟩ [] [], p.adv.made) := by
             rw [prefixF, if_pos he, if_neg (by rw [h1]; decide), if_neg (by rw [h2]; decide), if_neg (by rw [h3]; decide), hv]
           rw [hE]
           exact pref_4 b A c p vk vn vs vm vt d w h he h1 h2 h3 hv m0 m1
         | none =>
           cases ht : p.L[p.nx]? with
           | none =>
             have hE : prefixF wordB (f + 1) p d = (zeroE, p.fail 5) := by
               rw [prefixF, if_pos he, if_neg (by rw [h1]; decide), if_neg (by rw [h2]; decide), if_neg (by rw [h3]; decide), hv]
               dsimp only
               rw [ht]
             rw [hE]
             exact pref_6 b A c p d w h he h1 h2 h3 hv (.inl (List.getElem?_eq_none_iff.1 ht))
           | some t =>
             by_cases hk : t.k = 4
             · cases hw : wordB t.t with
               | true =>
                 have hE : prefixF wordB (f + 1) p d = (.mk 2 zeroV t.t [], p.made.adv) := by
                   rw [prefixF, if_pos he, if_neg (by rw [h1]; decide), if_neg (by rw [h2]; decide), if_neg (by rw [h3]; decide), hv]
                   dsimp only
                   rw [ht]
                   dsimp only
                   rw [if_pos ⟨hk, hw⟩]
                 rw [hE]
                 exact pref_5 b A c p t d w h he h1 h2 h3 hv ht hk hw m0 m1
               | false =>
                 have hE : prefixF wordB (f + 1) p d = (zeroE, p.fail 5) := by
                   rw [prefixF, if_pos he, if_neg (by rw [h1]; decide), if_neg (by rw [h2]; decide), if_neg (by rw [h3]; decide), hv]
                   dsimp only
                   rw [ht]
                   dsimp only
                   rw [if_neg (by rw [hw]; exact fun h => Bool.noConfusion h.2)]
                 rw [hE]
                 exact pref_6w b A c p t d w h he h1 h2 h3 hv ht hk hw
             · have hE : prefixF wordB (f + 1) p d = (zeroE, p.fail 5) := by
                 rw [prefixF, if_pos he, if_neg (by rw [h1]; decide), if_neg (by rw [h2]; decide), if_neg (by rw [h3]; decide), hv]
                 dsimp only
                 rw [ht]
                 dsimp only
                 rw [if_neg (fun h => hk h.1)]
               rw [hE]
               exact pref_6 b A c p d w h he h1 h2 h3 hv (.inr ⟨t, ht, hk⟩)
 · have hE : prefixF wordB (f + 1) p d = (zeroE, p) := by rw [prefixF, if_neg he]
   rw [hE]
   exact pref_0 b A c p d w h he
theorem reads_all : ∀ f, ∀ j, j ≤ f → ExprC j ∧ ChainC j ∧ PrefC j
 | 0 => fun j hj => by
   obtain rfl : j = 0 := by omega
   exact ⟨fun b A c p d k w h hR hf hd => absurd hf (by omega), fun b A c p d n k w h hR hn hf hd => absurd hf (by omega), fun b A c p d k w h hR hf hd => absurd hf (by omega)⟩
 | f + 1 => fun j hj => by
   have ih := reads_all f
   by_cases h : j ≤ f
   · exact ih j h
   · obtain rfl : j = f + 1 := by omega
     obtain ⟨hE, hC, hP⟩ := ih f (Nat.le_refl _)
     exact ⟨expr_all f hE hC, chain_all f hP (Lib.hid fun j hj => (ih j hj).2.1), pref_all f hE hP⟩
end Go.Proofs.YtapilekangmcoaaGreatDoor
namespace Go.Proofs.YtapilekangmcoaaGreatDoor
open Go.RowKit
theorem EV.leaf {o : Int} {v : Vl} {s : Bs} (hv : VOk v) : EV (.mk o v s []) := .mk o v s [] hv (fun k h => by cases h)
theorem zero_vok : VOk zeroV := vs_ok zero_sound
theorem ev_zero : EV zeroE := EV.leaf zero_vok
theorem ev_1 {o : Int} {a : Ex} (ha : EV a) : EV (.mk o zeroV [] [a]) := .mk _ _ _ _ zero_vok fun k h => by simp at h; rw [h]; exact ha
theorem ev_2 {o : Int} {a b : Ex} (ha : EV a) (hb : EV b) : EV (.mk o zeroV [] [a, b]) := .mk _ _ _ _ zero_vok fun k h => by
 simp at h
 rcases h with rfl | rfl
 · exact ha
 · exact hb
theorem ev_3 {o : Int} {a b c : Ex} (ha : EV a) (hb : EV b) (hc : EV c) : EV (.mk o zeroV [] [a, b, c]) := .mk _ _ _ _ zero_vok fun k h => by
 simp at h
 rcases h with rfl | rfl | rfl
 · exact ha
 · exact hb
 · exact hc
theorem ev_all (W : Bs → Bool) (N : Nat) : ∀ f,
   (∀ (p : PS) (d : Nat), POK N p → EV (exprF W f p d).1) ∧
   (∀ (p : PS) (d n : Nat), POK N p → EV (chainF W f p d n).1) ∧
   (∀ (x : Ex) (p : PS) (d n : Nat), EV x → POK N p → EV (moreF W f x p d n).1) ∧
   (∀ (p : PS) (d : Nat), POK N p → EV (prefixF W f p d).1)
 | 0 => by
   refine ⟨fun p d h => ?_, fun p d n h => ?_, fun x p d n hx h => ?_, fun p d h => ?_⟩
   · unfold exprF; exact ev_zero
   · unfold chainF; exact ev_zero
   · unfold moreF; exact hx
   · unfold prefixF; exact ev_zero
 | f + 1 => by
   obtain ⟨hE, hC, hM, hP⟩ := ev_all W N f
   obtain ⟨gE, gC, gM, gP⟩ := pok_all W N f
   refine ⟨fun p d h => ?_, fun p d n h => ?_, fun x p d n hx h => ?_, fun p d h => ?_⟩
   · unfold exprF
     split
     · have h1 := (h.deep d).adv
       have h2 := (gE _ d h1).need bThen
       have h3 := (gE _ d h2).need bElse
       exact ev_3 (hE _ d h1) (hE _ d h2) (hE _ d h3)
     · exact hC _ d 0 (h.deep d)
   · unfold chainF
     split
     · exact hP p d h
     · exact hM _ _ d n (hC p d (n + 1) h) (gC p d (n + 1) h)
   · unfold moreF
     split
     · split
       · exact hx
       · dsimp only
         split
         · exact ev_2 hx (hC _ d (n + 1) h.adv)
         · exact hM _ _ d n (ev_2 hx (hC _ d (n + 1) h.adv)) (gC _ d (n + 1) h.adv).made
     · exact hx
   · unfold prefixF
     split
     · split
       · exact ev_1 (hP _ d h.adv)
       · split
         · exact hE _ (d + 1) h.adv
         · split
           · exact ev_1 (hE _ (d + 1) (h.adv.need [40]))
           · split
             · rename_i v hv
               exact EV.leaf (vs_ok (val_vs h hv))
             · split
               · exact ev_zero
               · split
                 · exact EV.leaf zero_vok
                 · exact ev_zero
     · exact ev_zero
/-- How Parse ends. -/
def EPOut (w w' : World) (r : Ex × Int × Int) (e : Ending) : Prop := ∃ cs, e = .returned (.tuple #[.agg cs, .int .i64 r.2.1, .int .i64 r.2.2]) ∧ XM (fun g => w.heap.size ≤ g) w' r.1 cs
theorem eparse_walk (s : ByteArray) (p0 q : PS) (x : Ex) (ok : Bool) (m : Int) (w : World) (hw : OKW m w) (hL : q.L = p0.L)
   (HP : Hid (∀ W, Below w.heap.size w W → Calls Tryz.prog 24 #[.string s] W fun e w' => ∃ b A c, e = .returned (.pointer (some ⟨b, 0, none⟩)) ∧ W.heap.size ≤ b ∧ PB w' b A c p0 ∧ Below W.heap.size W w'))
   (KE : Hid (∀ b A c W, PB W b A c p0 → Calls Tryz.prog 25 #[.pointer (some ⟨b, 0, none⟩), .int .i64 1] W fun e w' => EOut b A c W w' (x, q) e))
   (KS : Hid (∀ cs W, XM (fun _ => True) W x cs → OKW m W → Calls Tryz.prog 29 #[.agg cs] W fun e w' => e = .returned (.bool ok) ∧ Below W.heap.size W w')) :
   Calls Tryz.prog 9 #[.string s] w fun e w' => EPOut w w' (outE x q ok) e ∧ Below w.heap.size w w' := by
 have HW := Lib.hid hw
 have KD := Lib.hid (fun (b : Nat) (A : Option Addr) (c : Nat) (W : World) (h : PB W b A c q) => ended_any b A c q W h)
 have KF := Lib.hid (fun (b : Nat) (A : Option Addr) (c : Nat) (W : World) (h : PB W b A c q) => fail_any b A c q 5 W h)
 have KR := Lib.hid (fun (b : Nat) (A : Option Addr) (c : Nat) (q : PS) (W : World) (h : PB W b A c q) => error_any b A c q W h)
 have k0 : Blk (w.alloc (.cells #[.int .i64 0, .int .i64 0, .int .i64 0, .int .i64 0, .string ⟨#[]⟩, .int .i64 0, .string ⟨#[]⟩, .slice none 0 0] 33)) w.heap.size 33 #[.int .i64 0, .int .i64 0, .int .i64 0, .int .i64 0, .string ⟨#[]⟩, .int .i64 0, .string ⟨#[]⟩, .slice none 0 0] := Blk.new _ _ _
 have HL := Lib.hid hL
 clear hw hL
 go_enter Tryz.func9, Tryz.ntmps9
 go_wp2_with fail
 refine (HP.out _ (by (repeat' first | (with_reducible first | exact .refl _ _ | assumption | apply balloc | apply Below.drew | apply bset | refine bstep ?_ ‹_› | refine bturn ?_ ‹_› ?_) | go_size))).mono ?_
 rintro e w1 ⟨b, A, c, rfl, hbb, h1, hb1⟩
 have hb01 : Below w.heap.size w w1 := by (repeat' first | (with_reducible first | exact .refl _ _ | assumption | apply balloc | apply Below.drew | apply bset | refine bstep ?_ ‹_› | refine bturn ?_ ‹_› ?_) | go_size)
 have k1 := Lib.hid (k0.step hb1)
 have hz1 := hb1.size
 simp only [World.size_alloc] at hz1 hbb
 have hlb := h1.blk.lt
 clear k0 hb1 HP
 go_wp2_with fail
 refine (KE.out _ _ _ _ h1).mono ?_
 rintro e w2 ⟨⟨cs, rfl, hx⟩, h2, g2⟩
 have hz2 := g2.size
 have hb02 : Below w.heap.size w w2 := g2.below hb01 (by omega)
 have k2 := Lib.hid (k1.out.gr g2 (by omega))
 have X2 := Lib.hid ((hx.mono fun g hg _ => (show w.heap.size + 1 ≤ g by omega)).top (Nat.le_refl _))
 obtain ⟨o, k, n, si, y, mm, r, B, l, cc, rfl⟩ := hx.cells
 have kA : Blk (w2.alloc (.cells #[.int .i64 0, .int .i64 0, .int .i64 0, .int .i64 0, .string ⟨#[]⟩, .int .i64 0, .string ⟨#[]⟩, .slice none 0 0] 33)) w2.heap.size 33 #[.int .i64 0, .int .i64 0, .int .i64 0, .int .i64 0, .string ⟨#[]⟩, .int .i64 0, .string ⟨#[]⟩, .slice none 0 0] := Blk.new _ _ _
 have HP2 := Lib.hid h2
 clear hx h1 h2 g2 KE hb01
 go_upto_region 3 with (refine wpList_store_blk kA rfl _ _ _ (by rfl) _ (by rfl) (by rfl) (by repeat first | with_reducible first | exact kA | apply Blk.alloc | apply Blk.drew | refine Blk.far ?_ (by simp <;> omega) _ | refine Blk.turn ?_ ‹_› (by omega)) (by rfl) (by kernel_rfl) (by simp [Value.oneCell']) ?_; intro wt kAn ht)
 have hb3 : Below w2.heap.size w2 wt := bturn (balloc (Below.refl _ _) _) ht (Nat.le_refl _)
 have k3 := Lib.hid (k2.out.step hb3)
 have kA3 := Lib.hid kAn
 have hz3 : w2.heap.size < wt.heap.size := kAn.lt
 have h3 := HP2.out.step hb3
 have H3 := Lib.hid h3
 have X3 := Lib.hid (X2.out.step hb3)
 have hb03 : Below w.heap.size w wt := bstep hb02 hb3
 clear kA kAn HP2 X2 hb3 ht k2 hb02
 by_cases he : q.e = 0
 · cases hE : q.ended with
   | false =>
     have KD2 := Lib.hid (KD.out b A c)
     rw [hE] at KD2
     have HO : Hid (outE x q ok = (zeroE, (q.fail 5).a, 5)) := Lib.hid (by
       have h1 : q.fin = q.fail 5 := by unfold PS.fin; rw [if_pos ⟨he, hE⟩]
       have h2 : (q.fail 5).e = 5 := by unfold PS.fail; rw [if_pos he]
       unfold outE
       rw [h1, h2, if_neg (by decide)])
     obtain ⟨q5, hq5⟩ : ∃ z, q.fail 5 = z := ⟨_, rfl⟩
     have hq5e : q5.e = 5 := by rw [← hq5]; unfold PS.fail; rw [if_pos he]
     have KF2 := Lib.hid (KF.out b A c)
     rw [hq5] at KF2 HO
     clear hE hq5
     have hbp := (h3).blk; obtain ⟨hlp, hllp, qp0, qp1, qp2, qp3, qp4, qp5, zp0, zp1, zp2, zp3, zp4, zp5⟩ := bf6 hbp; (try simp at qp0 qp1 qp2 qp3 qp4 qp5); have Hhbp := Lib.hid hbp; clear hbp
     rw [he] at qp4
     clear h3 he
     go_wp2_with fail
     refine (KD2.out _ H3.out).mono ?_
     rintro e w4 ⟨rfl, hb4⟩
     have h4 := H3.out.step hb4
     have k4 := Lib.hid (k3.out.step hb4)
     have hb04 : Below w.heap.size w w4 := bstep hb03 hb4
     have hz4 := hb4.size
     clear qp0 zp0 qp1 zp1 qp2 zp2 qp3 zp3 qp4 zp4 qp5 zp5 hlp hllp Hhbp
     go_wp2_with fail
     refine (KF2.out _ h4).mono ?_
     rintro e w5 ⟨rfl, h5, g5⟩
     have k5 := Lib.hid (k4.out.gr g5 (by omega))
     have hb05 : Below w.heap.size w w5 := g5.below hb04 (by omega)
     have hz5 := g5.size
     clear h4 g5
     go_wp2_with fail
     refine (KR.out b A c q5 _ h5).mono ?_
     rintro e w6 ⟨rfl, hb6⟩
     have k6 := k5.out.step hb6
     have hb06 : Below w.heap.size w w6 := bstep hb05 hb6
     rw [hq5e]
     clear h5 hb6
     go_wp2_with (refine wpList_store_blk k6 rfl _ _ _ (by rfl) _ (by rfl) (by rfl) (by repeat first | with_reducible first | exact k6 | apply Blk.alloc | apply Blk.drew | refine Blk.far ?_ (by simp <;> omega) _ | refine Blk.turn ?_ ‹_› (by omega)) (by rfl) (by kernel_rfl) (by simp [Value.oneCell']) ?_; intro wt k6n ht)
     refine ret_blk3 rfl k6n rfl Tryz.underlying33 rfl (by kernel_rfl) rfl ?_
     exact ⟨by rw [HO.out]; exact ⟨_, rfl, zero_xm⟩, bturn hb06 ht (Nat.le_refl _)⟩
   | true =>
     have KD2 := Lib.hid (KD.out b A c)
     rw [hE] at KD2
     have hO : outE x q ok = if ok = true then (x, 0, 0) else (zeroE, 0, 9) := by
       have h1 : q.fin = q := by unfold PS.fin; rw [if_neg (by rw [hE]; simp)]
       unfold outE
       rw [h1, if_pos he]
     have HE := Lib.hid he
     clear hE
     have hbp := (h3).blk; obtain ⟨hlp, hllp, qp0, qp1, qp2, qp3, qp4, qp5, zp0, zp1, zp2, zp3, zp4, zp5⟩ := bf6 hbp; (try simp at qp0 qp1 qp2 qp3 qp4 qp5); have Hhbp := Lib.hid hbp; clear hbp
     rw [he] at qp4
     clear h3 he
     go_wp2_with fail
     refine (KD2.out _ H3.out).mono ?_
     rintro e w4 ⟨rfl, hb4⟩
     have h4 := H3.out.step hb4
     have k4 := Lib.hid (k3.out.step hb4)
     have kA4 := Lib.hid (kA3.out.step hb4)
     have X4 := Lib.hid (X3.out.step hb4)
     have hb04 : Below w.heap.size w w4 := bstep hb03 hb4
     have hz4 := hb4.size
     clear qp0 zp0 qp1 zp1 qp2 zp2 qp3 zp3 qp4 zp4 qp5 zp5 hlp hllp Hhbp
     go_wp2_with fail
     refine (KR.out b A c q _ h4).mono ?_
     rintro e w5 ⟨rfl, hb5⟩
     have k5 := Lib.hid (k4.out.step hb5)
     have kA5 := kA4.out.step hb5
     have KA5 := Lib.hid kA5
     have X5 := Lib.hid (X4.out.step hb5)
     have hb05 : Below w.heap.size w w5 := bstep hb04 hb5
     have hz5 := hb5.size
     rw [HE.out]
     clear h4
     obtain ⟨hlu, hllu, qu0, qu1, qu2, qu3, qu4, qu5, qu6, qu7, zu0, zu1, zu2, zu3, zu4, zu5, zu6, zu7⟩ := bf8 kA5; (try simp at qu0 qu1 qu2 qu3 qu4 qu5 qu6 qu7); have HkA5 := Lib.hid kA5; clear kA5
     go_wp2_with fail
     refine (KS.out _ _ (X5.out.mono fun _ _ _ => trivial) (HW.out.step hb05)).mono ?_
     rintro e w6 ⟨rfl, hb6⟩
     have k6 := k5.out.step hb6
     have kA6 := KA5.out.step hb6
     have X6 := Lib.hid (X5.out.step hb6)
     have hb06 : Below w.heap.size w w6 := bstep hb05 hb6
     clear qu0 qu1 qu2 qu3 qu4 qu5 qu6 qu7 zu0 zu1 zu2 zu3 zu4 zu5 zu6 zu7 hlu hllu hb6 hb5
     cases ok with
     | false =>
       rw [if_neg (by decide)] at hO
       have HO := Lib.hid hO
       clear hO
       go_wp2_with (refine wpList_store_blk k6 rfl _ _ _ (by rfl) _ (by rfl) (by rfl) (by repeat first | with_reducible first | exact k6 | apply Blk.alloc | apply Blk.drew | refine Blk.far ?_ (by simp <;> omega) _ | refine Blk.turn ?_ ‹_› (by omega)) (by rfl) (by kernel_rfl) (by simp [Value.oneCell']) ?_; intro wt k6n ht)
       refine ret_blk3 rfl k6n rfl Tryz.underlying33 rfl (by kernel_rfl) rfl ?_
       exact ⟨by rw [HO.out]; exact ⟨_, rfl, zero_xm⟩, bturn hb06 ht (Nat.le_refl _)⟩
     | true =>
       rw [if_pos rfl] at hO
       have HO := Lib.hid hO
       clear hO
       go_wp2_with (first | (refine wpList_load_blk kA6 rfl _ _ (by rfl) (by rfl) (by (repeat first | with_reducible first | exact kA6 | apply Blk.alloc | apply Blk.drew | refine Blk.far ?_ (by simp <;> omega) _ | refine Blk.turn ?_ ‹_› (by omega))) _ Tryz.underlying33 rfl (by kernel_rfl) ?_) | (refine wpList_store_blk k6 rfl _ _ _ (by rfl) _ (by rfl) (by rfl) (by repeat first | with_reducible first | exact k6 | apply Blk.alloc | apply Blk.drew | refine Blk.far ?_ (by simp <;> omega) _ | refine Blk.turn ?_ ‹_› (by omega)) (by rfl) (by kernel_rfl) (by simp [Value.oneCell']) ?_; intro wt k6n ht))
       refine ret_blk3 rfl k6n rfl Tryz.underlying33 rfl (by kernel_rfl) rfl ?_
       exact ⟨by rw [HO.out]; exact ⟨_, rfl, (X6.out.turn ht fun g hg => by omega).mono fun g hg _ => by omega⟩, bturn hb06 ht (Nat.le_refl _)⟩
 · have hneb : (q.e == 0) = false := by simpa using he
   have hneb2 : (q.e != 0) = true := by simpa using he
   have HO : Hid (outE x q ok = (zeroE, q.a, q.e)) := Lib.hid (by
     have h1 : q.fin = q := by unfold PS.fin; rw [if_neg (fun h => he h.1)]
     unfold outE
     rw [h1, if_neg he])
   have hbp := (h3).blk; obtain ⟨hlp, hllp, qp0, qp1, qp2, qp3, qp4, qp5, zp0, zp1, zp2, zp3, zp4, zp5⟩ := bf6 hbp; (try simp at qp0 qp1 qp2 qp3 qp4 qp5); have Hhbp := Lib.hid hbp; clear hbp
   clear h3 he
   go_wp2_with fail
   refine (KR.out b A c q _ H3.out).mono ?_
   rintro e w4 ⟨rfl, hb4⟩
   have k4 := k3.out.step hb4
   have hb04 : Below w.heap.size w w4 := bstep hb03 hb4
   clear qp0 zp0 qp1 zp1 qp2 zp2 qp3 zp3 qp4 zp4 qp5 zp5 hlp hllp Hhbp
   go_wp2_with (refine wpList_store_blk k4 rfl _ _ _ (by rfl) _ (by rfl) (by rfl) (by repeat first | with_reducible first | exact k4 | apply Blk.alloc | apply Blk.drew | refine Blk.far ?_ (by simp <;> omega) _ | refine Blk.turn ?_ ‹_› (by omega)) (by rfl) (by kernel_rfl) (by simp [Value.oneCell']) ?_; intro wt k4n ht)
   refine ret_blk3 rfl k4n rfl Tryz.underlying33 rfl (by kernel_rfl) rfl ?_
   exact ⟨by rw [HO.out]; exact ⟨_, rfl, zero_xm⟩, bturn hb04 ht (Nat.le_refl _)⟩
theorem eparse_any (m : Int) (s : ByteArray) (w : World) (hw : OKW m w) (F : Nat) (hF : 600000 ≤ F) :
   Calls Tryz.prog 9 #[.string s] w fun e w' => EPOut w w' (exprS (lxX m) F soundX s.data.toList) e ∧ Below w.heap.size w w' := by
 obtain ⟨h1, h2, h3⟩ := toksS_ok m w hw s.data.toList
 have h0 : POK s.data.toList.length (newP (toksS (lxX m) s.data.toList) s.data.toList.length) := ⟨Nat.le_refl _, Int.natCast_nonneg _, Int.ofNat_le.2 h2, h1⟩
 have hR : Rm 0 65536 (newP (toksS (lxX m) s.data.toList) s.data.toList.length) := ⟨Int.le_refl _, Int.le_refl _, Nat.zero_le _, h3, by show (toksS (lxX m) s.data.toList).l.length ≤ 100000; omega⟩
 have hv := (ev_all wordB _ F).1 _ 1 h0
 have hL := ((fw_all wordB F).1 (newP (toksS (lxX m) s.data.toList) s.data.toList.length) 1).L
 unfold exprS
 exact eparse_walk s _ _ _ _ m w hw hL
   (Lib.hid fun W hb => newp_any m s _ rfl W (hw.step hb))
   (Lib.hid fun b A c W hW => (reads_all F F (Nat.le_refl _)).1 b A c _ 1 65536 W hW hR (by omega) (by omega))
   (Lib.hid fun cs W hx hW => sound_any' _ cs m W hW hx hv)
end Go.Proofs.YtapilekangmcoaaGreatDoor
