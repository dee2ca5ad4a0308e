/- The walk of expr.Parser's Expr at an if. -/
import Derived.Test.YtapilekangmcoaaGreatDoorN23
set_option linter.unusedVariables false
set_option linter.unusedSimpArgs false
set_option maxHeartbeats 8000000
set_option maxRecDepth 100000
namespace Go.Proofs.YtapilekangmcoaaGreatDoor
open Go.RowKit
theorem expr_2 (b : Nat) (A : Option Addr) (c : Nat) (p p1 p2 p3 q1 q2 q3 : PS) (x1 x2 x3 : Ex) (d : Nat) (w : World) (h : PB w b A c p) (hd : ¬ 64 < d) (he : p.e = 0) (hi : p.isS bIf = true) (hp1 : p1 = p.adv) (hp2 : q1.need bThen = p2) (hp3 : q2.need bElse = p3)
   (hm0 : 0 ≤ q3.md) (hm1 : q3.md ≤ 200000) (hr : q3.L = p.L)
   (KE1 : Hid (∀ W, PB W b A c p1 → Calls Tryz.prog 25 #[.pointer (some ⟨b, 0, none⟩), .int .i64 (d : Int)] W fun e w' => EOut b A c W w' (x1, q1) e))
   (KE2 : Hid (∀ W, PB W b A c p2 → Calls Tryz.prog 25 #[.pointer (some ⟨b, 0, none⟩), .int .i64 (d : Int)] W fun e w' => EOut b A c W w' (x2, q2) e))
   (KE3 : Hid (∀ W, PB W b A c p3 → Calls Tryz.prog 25 #[.pointer (some ⟨b, 0, none⟩), .int .i64 (d : Int)] W fun e w' => EOut b A c W w' (x3, q3) e)) :
   Calls Tryz.prog 25 #[.pointer (some ⟨b, 0, none⟩), .int .i64 (d : Int)] w fun e w' => EOut b A c w w' (.mk 17 zeroV [] [x1, x2, x3], q3.made) e := by
 have hlw := h.blk.lt
 have k0 : Blk (w.alloc (.cells #[.int .i64 0, .int .i64 0, .int .i64 0, .int .i64 0, .string ⟨#[]⟩, .int .i64 0, .string ⟨#[]⟩, .slice none 0 0] 33)) w.heap.size 33 #[.int .i64 0, .int .i64 0, .int .i64 0, .int .i64 0, .string ⟨#[]⟩, .int .i64 0, .string ⟨#[]⟩, .slice none 0 0] := Blk.new _ _ _
 have hA : Below w.heap.size w (w.alloc (.cells #[.int .i64 0, .int .i64 0, .int .i64 0, .int .i64 0, .string ⟨#[]⟩, .int .i64 0, .string ⟨#[]⟩, .slice none 0 0] 33)) := by (repeat' first | (with_reducible first | exact .refl _ _ | assumption | apply balloc | apply Below.drew | apply bset | refine bstep ?_ ‹_› | refine bturn ?_ ‹_› ?_) | go_size)
 have H1 := Lib.hid (h.step hA)
 have K0 := Lib.hid k0
 have G1 := Lib.hid (Gr.of hA : Gr b w _)
 have HS1 : Hid ((w.alloc (.cells #[.int .i64 0, .int .i64 0, .int .i64 0, .int .i64 0, .string ⟨#[]⟩, .int .i64 0, .string ⟨#[]⟩, .slice none 0 0] 33)).heap.size = w.heap.size + 1) := Lib.hid (by simp)
 have H := Lib.hid h
 have HR : Hid (q3.made.L = p.L) := Lib.hid ((made_L q3).trans hr)
 have hdi : ¬ (64 : Int) < (d : Int) := by omega
 have KT := Lib.hid (fun (W : World) (h : PB W b A c p) => take_any b A c p bIf W h)
 have KN1 := Lib.hid (fun (W : World) (h : PB W b A c q1) => need_any b A c q1 bThen W h)
 have KN2 := Lib.hid (fun (W : World) (h : PB W b A c q2) => need_any b A c q2 bElse W h)
 have KM := Lib.hid (fun (B : Option Addr) (n cp : Nat) (W : World) (h : PB W b A c q3) => emake_any b A c q3 17 B n cp W h hm0 hm1)
 rw [hi, take_yes hi, ← hp1] at KT
 rw [hp2] at KN1
 rw [hp3] at KN2
 have h1 := H1.out
 have HE := Lib.hid he
 clear h k0 hA hr hd hi he hp1 hp2 hp3 hm0 hm1
 go_enter Tryz.func25, Tryz.ntmps25
 go_upto_region 3 with fail
 generalize (w.alloc (.cells #[.int .i64 0, .int .i64 0, .int .i64 0, .int .i64 0, .string ⟨#[]⟩, .int .i64 0, .string ⟨#[]⟩, .slice none 0 0] 33)) = w1 at *
 have hz1 := HS1.out
 have hbp := (h1).blk; obtain ⟨hlp, hllp, qp0, qp1, qp2, qp3, qp4, qp5, zp0, zp1, zp2, zp3, zp4, zp5⟩ := bf6 hbp; (try simp at qp0 qp1 qp2 qp3 qp4 qp5); have Hhbp := Lib.hid hbp; clear hbp
 rw [HE.out] at qp4
 clear h1
 go_wp2_with fail
 refine (KT.out _ H1.out).mono ?_
 rintro e w2 ⟨rfl, h2, g2⟩
 have k2 := K0.out.gr g2 (by omega)
 have G2 := Lib.hid (G1.out.trans g2)
 have hz2 := g2.size
 have K2 := Lib.hid k2
 clear k2 K0 H1 G1 g2 HS1 KT HE
 clear qp0 zp0 qp1 zp1 qp2 zp2 qp3 zp3 qp4 zp4 qp5 zp5 hlp hllp Hhbp
 -- the first part
 go_wp2_with fail
 refine (KE1.out _ h2).mono ?_
 rintro e w3 ⟨⟨cs1, rfl, hx1⟩, h3, g3⟩
 have hz3 := g3.size
 have k3 := K2.out.gr g3 (by omega)
 have G3 := Lib.hid (G2.out.trans g3)
 have X1 := Lib.hid ((hx1.mono fun g hg _ => (show w.heap.size + 1 ≤ g by omega)).top (Nat.le_refl _))
 obtain ⟨o1, ek1, n1, s1, y1, m1, z1, B1, l1, c1, rfl⟩ := hx1.cells
 have kA : Blk (w3.alloc (.cells #[.int .i64 0, .int .i64 0, .int .i64 0, .int .i64 0, .string ⟨#[]⟩, .int .i64 0, .string ⟨#[]⟩, .slice none 0 0] 33)) w3.heap.size 33 #[.int .i64 0, .int .i64 0, .int .i64 0, .int .i64 0, .string ⟨#[]⟩, .int .i64 0, .string ⟨#[]⟩, .slice none 0 0] := Blk.new _ _ _
 have HP3 := Lib.hid h3
 clear hx1 h3 h2 g3 KE1 G2 K2
 go_upto_region 6 with (refine wpList_store_blk kA rfl _ _ _ (by rfl) _ (by rfl) (by rfl) (by repeat first | with_reducible first | exact kA | apply Blk.alloc | apply Blk.drew | refine Blk.far ?_ (by simp <;> omega) _ | refine Blk.turn ?_ ‹_› (by omega)) (by rfl) (by kernel_rfl) (by simp [Value.oneCell']) ?_; intro wt kAn ht)
 have hb4 : Below w3.heap.size w3 wt := bturn (balloc (Below.refl _ _) _) ht (Nat.le_refl _)
 have k4 := Lib.hid (k3.step hb4)
 have kA4 := Lib.hid kAn
 have hz4 : w3.heap.size < wt.heap.size := kAn.lt
 have h4 := HP3.out.step hb4
 have G4 := Lib.hid (G3.out.bstep hb4)
 have X14 := Lib.hid (X1.out.step hb4)
 clear k3 kA kAn HP3 G3 X1 hb4 ht
 go_wp2_with fail
 refine (KN1.out _ h4).mono ?_
 rintro e w5 ⟨rfl, h5, g5⟩
 have hz5 := g5.size
 have k5 := Lib.hid (k4.out.gr g5 (by omega))
 have kA5 := Lib.hid (kA4.out.gr g5 (by omega))
 have G5 := Lib.hid (G4.out.trans g5)
 have X15 := Lib.hid (X14.out.gr g5 fun g hg => by omega)
 clear k4 kA4 h4 G4 X14 g5 KN1
 -- the second part
 go_wp2_with fail
 refine (KE2.out _ h5).mono ?_
 rintro e w6 ⟨⟨cs2, rfl, hx2⟩, h6, g6⟩
 have hz6 := g6.size
 have k6 := k5.out.gr g6 (by omega)
 have kA6 := kA5.out.gr g6 (by omega)
 have G6 := Lib.hid (G5.out.trans g6)
 have X16 := Lib.hid (X15.out.gr g6 fun g hg => by omega)
 have X2 := Lib.hid ((hx2.mono fun g hg _ => (show w3.heap.size + 1 ≤ g by omega)).top (Nat.le_refl _))
 obtain ⟨o2, ek2, n2, s2, y2, m2, z2, B2, l2, c2, rfl⟩ := hx2.cells
 have kB : Blk (w6.alloc (.cells #[.int .i64 0, .int .i64 0, .int .i64 0, .int .i64 0, .string ⟨#[]⟩, .int .i64 0, .string ⟨#[]⟩, .slice none 0 0] 33)) w6.heap.size 33 #[.int .i64 0, .int .i64 0, .int .i64 0, .int .i64 0, .string ⟨#[]⟩, .int .i64 0, .string ⟨#[]⟩, .slice none 0 0] := Blk.new _ _ _
 have HP6 := Lib.hid h6
 clear hx2 h6 h5 g6 KE2 G5 k5 kA5 X15
 go_upto_region 8 with (refine wpList_store_blk kB rfl _ _ _ (by rfl) _ (by rfl) (by rfl) (by repeat first | with_reducible first | exact kB | apply Blk.alloc | apply Blk.drew | refine Blk.far ?_ (by simp <;> omega) _ | refine Blk.turn ?_ ‹_› (by omega)) (by rfl) (by kernel_rfl) (by simp [Value.oneCell']) ?_; intro wt kBn ht)
 have hb7 : Below w6.heap.size w6 wt := bturn (balloc (Below.refl _ _) _) ht (Nat.le_refl _)
 have k7 := Lib.hid (k6.step hb7)
 have kA7 := Lib.hid (kA6.step hb7)
 have kB7 := Lib.hid kBn
 have hz7 : w6.heap.size < wt.heap.size := kBn.lt
 have h7 := HP6.out.step hb7
 have G7 := Lib.hid (G6.out.bstep hb7)
 have X17 := Lib.hid (X16.out.step hb7)
 have X27 := Lib.hid (X2.out.step hb7)
 clear k6 kA6 kB kBn HP6 G6 X16 X2 hb7 ht
 go_wp2_with fail
 refine (KN2.out _ h7).mono ?_
 rintro e w8 ⟨rfl, h8, g8⟩
 have hz8 := g8.size
 have k8 := Lib.hid (k7.out.gr g8 (by omega))
 have kA8 := kA7.out.gr g8 (by omega)
 have kB8 := kB7.out.gr g8 (by omega)
 have KA8 := Lib.hid kA8
 have KB8 := Lib.hid kB8
 have G8 := Lib.hid (G7.out.trans g8)
 have X18 := Lib.hid (X17.out.gr g8 fun g hg => by omega)
 have X28 := Lib.hid (X27.out.gr g8 fun g hg => by omega)
 have H8 := Lib.hid h8
 clear k7 kA7 kB7 h7 G7 X17 X27 g8 KN2 h8
 -- the third part, and what is made of the three
 obtain ⟨hlu, hllu, qu0, qu1, qu2, qu3, qu4, qu5, qu6, qu7, zu0, zu1, zu2, zu3, zu4, zu5, zu6, zu7⟩ := bf8 kA8; (try simp at qu0 qu1 qu2 qu3 qu4 qu5 qu6 qu7); have HkA8 := Lib.hid kA8; clear kA8
 obtain ⟨hlv, hllv, qv0, qv1, qv2, qv3, qv4, qv5, qv6, qv7, zv0, zv1, zv2, zv3, zv4, zv5, zv6, zv7⟩ := bf8 kB8; (try simp at qv0 qv1 qv2 qv3 qv4 qv5 qv6 qv7); have HkB8 := Lib.hid kB8; clear kB8
 go_upto_region 9 with fail
 go_cut [4] (fun z wx => z = .pointer (some ⟨w.heap.size, 0, none⟩) ∧ ∃ (B : Option Addr), Blk wx w.heap.size 33 #[.int .i64 17, .int .i64 0, .int .i64 0, .int .i64 0, .string ⟨#[]⟩, .int .i64 0, .string ⟨#[]⟩, .slice B 3 3] ∧ PB wx b A c q3.made ∧ Gr b w wx ∧ XM (fun g => w.heap.size + 1 ≤ g) wx (.mk 17 zeroV [] [x1, x2, x3]) #[.int .i64 17, .int .i64 0, .int .i64 0, .int .i64 0, .string ⟨#[]⟩, .int .i64 0, .string ⟨#[]⟩, .slice B 3 3])
 case first =>
   go_region_with (first
     | (go_at_call 25; refine (KE3.out _ (by first | exact H8.out | exact H8.out.nodrew | exact H8.out.drewN _)).mono ?_; rintro e w9 ⟨⟨cs3, rfl, hx3⟩, h9, g9'⟩; have g9 : Gr b w8 w9 := ⟨g9'.os, g9'.tape, g9'.output, g9'.size, g9'.block⟩; have hs3 : XM (fun g => w8.heap.size ≤ g) w9 x3 cs3 := hx3; clear g9' hx3; have hz9 := g9.size; have kA9 := KA8.out.gr g9 (by omega); have kB9 := KB8.out.gr g9 (by omega); obtain ⟨o3, ek3, n3, s3, y3, m3, z3, B3, l3, c3, rfl⟩ := hs3.cells; have X3 := Lib.hid (hs3.mono fun g hg _ => (show w.heap.size + 1 ≤ g by omega)); have KH := Lib.hid h9; have KG := Lib.hid g9; have k9 := Lib.hid (k8.out.gr g9 (by omega)); have X19 := Lib.hid (X18.out.gr g9 fun g hg => by omega); have X29 := Lib.hid (X28.out.gr g9 fun g hg => by omega); clear hs3 h9 g9; obtain ⟨hla, hlla, qa0, qa1, qa2, qa3, qa4, qa5, qa6, qa7, za0, za1, za2, za3, za4, za5, za6, za7⟩ := bf8 kA9; (try simp at qa0 qa1 qa2 qa3 qa4 qa5 qa6 qa7); have HkA9 := Lib.hid kA9; clear kA9; obtain ⟨hlb, hllb, qb0, qb1, qb2, qb3, qb4, qb5, qb6, qb7, zb0, zb1, zb2, zb3, zb4, zb5, zb6, zb7⟩ := bf8 kB9; (try simp at qb0 qb1 qb2 qb3 qb4 qb5 qb6 qb7); have HkB9 := Lib.hid kB9; clear kB9)
     | (go_at_call 50; refine (KM.out _ _ _ _ (KH.out.step (by (repeat' first | (with_reducible first | exact .refl _ _ | assumption | apply balloc | apply Below.drew | apply bset | refine bstep ?_ ‹_› | refine bturn ?_ ‹_› ?_) | go_size)))).mono ?_; rintro e wm ⟨rfl, hm, gm⟩; have KK := Lib.hid ((Blk.new w9 33 #[.int .i64 o1, .int .i64 ek1, .int .i64 n1, .int .i64 s1, .string y1, .int .i64 m1, .string z1, .slice B1 l1 c1, .int .i64 o2, .int .i64 ek2, .int .i64 n2, .int .i64 s2, .string y2, .int .i64 m2, .string z2, .slice B2 l2 c2, .int .i64 o3, .int .i64 ek3, .int .i64 n3, .int .i64 s3, .string y3, .int .i64 m3, .string z3, .slice B3 l3 c3]).gr gm (by omega)); have km := (k9.out.alloc _).gr gm (by omega); have Km := Lib.hid km; have Xa := Lib.hid ((X19.out.step (balloc (Below.refl _ _) _)).gr gm fun g hg => by omega); have Xb := Lib.hid ((X29.out.step (balloc (Below.refl _ _) _)).gr gm fun g hg => by omega); have Xc := Lib.hid ((X3.out.step (balloc (Below.refl _ _) _)).gr gm fun g hg => by omega); have Hm := Lib.hid hm; have Gm := Lib.hid (((G8.out.trans KG.out).alloc _).trans gm); clear hm gm; obtain ⟨hlk, hllk, qk0, qk1, qk2, qk3, qk4, qk5, qk6, qk7, zk0, zk1, zk2, zk3, zk4, zk5, zk6, zk7⟩ := bf8 km; (try simp at qk0 qk1 qk2 qk3 qk4 qk5 qk6 qk7); have Hkm := Lib.hid km; clear km))
   all_goals
     go_wp2_with fail
     go_meet
     case rel =>
       obtain ⟨e1, e2⟩ := set8 Km.out (.int .i64 17) (.int .i64 0) (.int .i64 0) (.int .i64 0) (.string ⟨#[]⟩) (.int .i64 0) (.string ⟨#[]⟩) (.slice (some ⟨w9.heap.size, 0, none⟩) 3 3)
       refine ⟨rfl, some ⟨w9.heap.size, 0, none⟩, e1, H.out.turnF HR.out.symm Hm.out e2 (Nat.le_refl _), Gr.turnFar Gm.out e2 (Nat.le_refl _), ?_⟩
       exact XM.three (KK.out.turn e2 (by omega)) rfl (by omega) ((Xa.out.turn e2 fun g hg => by omega).mono fun g hg _ => by omega) ((Xb.out.turn e2 fun g hg => by omega).mono fun g hg _ => by omega) (Xc.out.turn e2 fun g hg => by omega) 3
 case rest =>
   obtain ⟨rfl, B, kx, hx, gx, xx⟩ := hcut
   go_wp2_with fail
   refine ret_blk rfl kx rfl Tryz.underlying33 rfl (by kernel_rfl) rfl ?_
   exact ⟨⟨_, rfl, xx.mono fun g hg _ => by omega⟩, hx, gx⟩
end Go.Proofs.YtapilekangmcoaaGreatDoor
