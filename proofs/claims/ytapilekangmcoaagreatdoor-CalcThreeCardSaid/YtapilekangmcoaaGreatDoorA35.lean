/- The walks of expr.Parser's prefix: nothing more, a minus, brackets, not. Printed by genpre.py. The walk of expr.Parser's prefix where nothing may stand. Printed by genpre.py. -/
import Derived.Test.YtapilekangmcoaaGreatDoorA23
set_option linter.unusedVariables false
set_option linter.unusedSimpArgs false
set_option maxHeartbeats 8000000
set_option maxRecDepth 100000
namespace Go.Proofs.YtapilekangmcoaaGreatDoor
open Go.RowKit
theorem pref_0 (b : Nat) (A : Option Addr) (c : Nat) (p : PS) (d : Nat) (w : World) (h : PB w b A c p) (he : ¬ p.e = 0) :
   Calls Tryz.prog 76 #[.pointer (some ⟨b, 0, none⟩), .int .i64 (d : Int)] w fun e w' => EOut b A c w w' (zeroE, p) e := by
 have hlw := h.blk.lt
 have k0 : Blk (w.alloc (.cells #[.int .i64 0, .int .i64 0, .int .i64 0, .int .i64 0, .string ⟨#[]⟩, .int .i64 0, .string ⟨#[]⟩, .slice none 0 0] 33)) w.heap.size 33 #[.int .i64 0, .int .i64 0, .int .i64 0, .int .i64 0, .string ⟨#[]⟩, .int .i64 0, .string ⟨#[]⟩, .slice none 0 0] := Blk.new _ _ _
 have hA : Below w.heap.size w (w.alloc (.cells #[.int .i64 0, .int .i64 0, .int .i64 0, .int .i64 0, .string ⟨#[]⟩, .int .i64 0, .string ⟨#[]⟩, .slice none 0 0] 33)) := by (repeat' first | (with_reducible first | exact .refl _ _ | assumption | apply balloc | apply Below.drew | apply bset | refine bstep ?_ ‹_› | refine bturn ?_ ‹_› ?_) | go_size)
 have H1 := Lib.hid (h.step hA)
 have K0 := Lib.hid k0
 have G1 := Lib.hid (Gr.of hA : Gr b w _)
 have HS1 : Hid ((w.alloc (.cells #[.int .i64 0, .int .i64 0, .int .i64 0, .int .i64 0, .string ⟨#[]⟩, .int .i64 0, .string ⟨#[]⟩, .slice none 0 0] 33)).heap.size = w.heap.size + 1) := Lib.hid (by simp)
 have H := Lib.hid h
 have h1 := H1.out
 have hne : (p.e != 0) = true := by simpa using he
 clear h k0 hA he
 go_enter Tryz.func76, Tryz.ntmps76
 go_upto_region 1 with fail
 generalize (w.alloc (.cells #[.int .i64 0, .int .i64 0, .int .i64 0, .int .i64 0, .string ⟨#[]⟩, .int .i64 0, .string ⟨#[]⟩, .slice none 0 0] 33)) = w1 at *
 have hz1 := HS1.out
 have hbp := (h1).blk; obtain ⟨hlp, hllp, qp0, qp1, qp2, qp3, qp4, qp5, zp0, zp1, zp2, zp3, zp4, zp5⟩ := bf6 hbp; (try simp at qp0 qp1 qp2 qp3 qp4 qp5); have Hhbp := Lib.hid hbp; clear hbp
 have k1 := K0.out
 clear h1
 go_wp2_with (refine wpList_store_blk k1 rfl _ _ _ (by rfl) _ (by rfl) (by rfl) (by repeat first | with_reducible first | exact k1 | apply Blk.alloc | apply Blk.drew | refine Blk.far ?_ (by simp <;> omega) _ | refine Blk.turn ?_ ‹_› (by omega)) (by rfl) (by kernel_rfl) (by simp [Value.oneCell']) ?_; intro wt k1n ht)
 refine ret_blk rfl k1n rfl Tryz.underlying33 rfl (by kernel_rfl) rfl ?_
 exact ⟨⟨_, rfl, zero_xm⟩, H.out.turnF rfl H1.out ht (Nat.le_refl _), Gr.turnFar G1.out ht (Nat.le_refl _)⟩
theorem pref_1 (b : Nat) (A : Option Addr) (c : Nat) (p : PS) (p1 q1 : PS) (x1 : Ex) (d : Nat) (w : World) (h : PB w b A c p) (he : p.e = 0) (hi : p.isS [45] = true) (hp1 : p.adv = p1) (hm0 : 0 ≤ q1.md) (hm1 : q1.md ≤ 200000) (hr : q1.L = p.L)
   (KP : Hid (∀ W, PB W b A c p1 → Calls Tryz.prog 76 #[.pointer (some ⟨b, 0, none⟩), .int .i64 (d : Int)] W fun e w' => EOut b A c W w' (x1, q1) e)) :
   Calls Tryz.prog 76 #[.pointer (some ⟨b, 0, none⟩), .int .i64 (d : Int)] w fun e w' => EOut b A c w w' (.mk 3 zeroV [] [x1], q1.made) e := by
 have hlw := h.blk.lt
 have k0 : Blk (w.alloc (.cells #[.int .i64 0, .int .i64 0, .int .i64 0, .int .i64 0, .string ⟨#[]⟩, .int .i64 0, .string ⟨#[]⟩, .slice none 0 0] 33)) w.heap.size 33 #[.int .i64 0, .int .i64 0, .int .i64 0, .int .i64 0, .string ⟨#[]⟩, .int .i64 0, .string ⟨#[]⟩, .slice none 0 0] := Blk.new _ _ _
 have hA : Below w.heap.size w (w.alloc (.cells #[.int .i64 0, .int .i64 0, .int .i64 0, .int .i64 0, .string ⟨#[]⟩, .int .i64 0, .string ⟨#[]⟩, .slice none 0 0] 33)) := by (repeat' first | (with_reducible first | exact .refl _ _ | assumption | apply balloc | apply Below.drew | apply bset | refine bstep ?_ ‹_› | refine bturn ?_ ‹_› ?_) | go_size)
 have H1 := Lib.hid (h.step hA)
 have K0 := Lib.hid k0
 have G1 := Lib.hid (Gr.of hA : Gr b w _)
 have HS1 : Hid ((w.alloc (.cells #[.int .i64 0, .int .i64 0, .int .i64 0, .int .i64 0, .string ⟨#[]⟩, .int .i64 0, .string ⟨#[]⟩, .slice none 0 0] 33)).heap.size = w.heap.size + 1) := Lib.hid (by simp)
 have H := Lib.hid h
 have h1 := H1.out
 have HR : Hid (q1.made.L = p.L) := Lib.hid ((made_L q1).trans hr)
 have KT := Lib.hid (fun (W : World) (h : PB W b A c p) => take_any b A c p [45] W h)
 have KM := Lib.hid (fun (B : Option Addr) (n cp : Nat) (W : World) (h : PB W b A c q1) => emake_any b A c q1 3 B n cp W h hm0 hm1)
 rw [hi, take_yes hi, hp1] at KT
 have HE := Lib.hid he
 clear h k0 hA hr hi he hp1 hm0 hm1
 go_enter Tryz.func76, Tryz.ntmps76
 go_upto_region 1 with fail
 generalize (w.alloc (.cells #[.int .i64 0, .int .i64 0, .int .i64 0, .int .i64 0, .string ⟨#[]⟩, .int .i64 0, .string ⟨#[]⟩, .slice none 0 0] 33)) = w1 at *
 have hz1 := HS1.out
 have hbp := (h1).blk; obtain ⟨hlp, hllp, qp0, qp1, qp2, qp3, qp4, qp5, zp0, zp1, zp2, zp3, zp4, zp5⟩ := bf6 hbp; (try simp at qp0 qp1 qp2 qp3 qp4 qp5); have Hhbp := Lib.hid hbp; clear hbp
 rw [HE.out] at qp4
 clear h1
 go_wp2_with fail
 refine (KT.out _ H1.out).mono ?_
 rintro e w2 ⟨rfl, h2, g2⟩
 have hz2 := g2.size
 have K2 := Lib.hid (K0.out.gr g2 (by omega))
 have G2 := Lib.hid (G1.out.trans g2)
 clear qp0 zp0 qp1 zp1 qp2 zp2 qp3 zp3 qp4 zp4 qp5 zp5 hlp hllp Hhbp
 go_wp2_with fail
 refine (KP.out _ h2).mono ?_
 rintro e w3 ⟨⟨cs, rfl, hx⟩, h3, g3⟩
 have hz3 := g3.size
 have K3 := Lib.hid (K2.out.gr g3 (by omega))
 have G3 := Lib.hid (G2.out.trans g3)
 obtain ⟨o, k, n, s, q2, m, r2, B, l, cc, rfl⟩ := hx.cells
 have X3 := Lib.hid (hx.mono fun g hg _ => (show w.heap.size + 1 ≤ g by omega))
 have HP3 := Lib.hid h3
 clear hx h2 h3 g3 g2
 go_wp2_with fail
 refine (KM.out _ _ _ _ (HP3.out.step (by (repeat' first | (with_reducible first | exact .refl _ _ | assumption | apply balloc | apply Below.drew | apply bset | refine bstep ?_ ‹_› | refine bturn ?_ ‹_› ?_) | go_size)))).mono ?_
 rintro e w4 ⟨rfl, h4, g4⟩
 have KK := Lib.hid ((Blk.new w3 33 #[.int .i64 o, .int .i64 k, .int .i64 n, .int .i64 s, .string q2, .int .i64 m, .string r2, .slice B l cc]).gr g4 (by omega))
 have X4 := Lib.hid ((X3.out.step (balloc (Below.refl _ _) _)).gr g4 fun g hg => by omega)
 have k4 := (K3.out.alloc _).gr g4 (by omega)
 have G4 := Lib.hid ((G3.out.alloc _).trans g4)
 go_wp2_with (refine wpList_store_blk k4 rfl _ _ _ (by rfl) _ (by rfl) (by rfl) (by repeat first | with_reducible first | exact k4 | apply Blk.alloc | apply Blk.drew | refine Blk.far ?_ (by simp <;> omega) _ | refine Blk.turn ?_ ‹_› (by omega)) (by rfl) (by kernel_rfl) (by simp [Value.oneCell']) ?_; intro wt k4n ht)
 refine ret_blk rfl k4n rfl Tryz.underlying33 rfl (by kernel_rfl) rfl ?_
 exact ⟨⟨_, rfl, (XM.one (KK.out.turn ht (by omega)) rfl (show w.heap.size + 1 ≤ w3.heap.size by omega) (X4.out.turn ht fun g hg => by omega) 1).mono fun g hg _ => by omega⟩, H.out.turnF HR.out.symm h4 ht (Nat.le_refl _), Gr.turnFar G4.out ht (Nat.le_refl _)⟩
theorem pref_2 (b : Nat) (A : Option Addr) (c : Nat) (p : PS) (p1 q1 q2 : PS) (x1 : Ex) (d d1 : Nat) (w : World) (h : PB w b A c p) (he : p.e = 0) (hn : p.isS [45] = false) (hi : p.isS [40] = true) (hp1 : p.adv = p1) (hq : q1.need [41] = q2) (hr : q1.L = p.L) (hd : d ≤ 300000) (hd1 : d1 = d + 1)
   (KE : Hid (∀ W, PB W b A c p1 → Calls Tryz.prog 25 #[.pointer (some ⟨b, 0, none⟩), .int .i64 (d1 : Int)] W fun e w' => EOut b A c W w' (x1, q1) e)) :
   Calls Tryz.prog 76 #[.pointer (some ⟨b, 0, none⟩), .int .i64 (d : Int)] w fun e w' => EOut b A c w w' (x1, q2) e := by
 have hlw := h.blk.lt
 have k0 : Blk (w.alloc (.cells #[.int .i64 0, .int .i64 0, .int .i64 0, .int .i64 0, .string ⟨#[]⟩, .int .i64 0, .string ⟨#[]⟩, .slice none 0 0] 33)) w.heap.size 33 #[.int .i64 0, .int .i64 0, .int .i64 0, .int .i64 0, .string ⟨#[]⟩, .int .i64 0, .string ⟨#[]⟩, .slice none 0 0] := Blk.new _ _ _
 have hA : Below w.heap.size w (w.alloc (.cells #[.int .i64 0, .int .i64 0, .int .i64 0, .int .i64 0, .string ⟨#[]⟩, .int .i64 0, .string ⟨#[]⟩, .slice none 0 0] 33)) := by (repeat' first | (with_reducible first | exact .refl _ _ | assumption | apply balloc | apply Below.drew | apply bset | refine bstep ?_ ‹_› | refine bturn ?_ ‹_› ?_) | go_size)
 have H1 := Lib.hid (h.step hA)
 have K0 := Lib.hid k0
 have G1 := Lib.hid (Gr.of hA : Gr b w _)
 have HS1 : Hid ((w.alloc (.cells #[.int .i64 0, .int .i64 0, .int .i64 0, .int .i64 0, .string ⟨#[]⟩, .int .i64 0, .string ⟨#[]⟩, .slice none 0 0] 33)).heap.size = w.heap.size + 1) := Lib.hid (by simp)
 have H := Lib.hid h
 have h1 := H1.out
 have HR : Hid (q2.L = p.L) := Lib.hid (by rw [← hq]; exact (need_L _ _).trans hr)
 have KT0 := Lib.hid (fun (W : World) (h : PB W b A c p) => take_any b A c p [45] W h)
 have KT := Lib.hid (fun (W : World) (h : PB W b A c p) => take_any b A c p [40] W h)
 have KN := Lib.hid (fun (W : World) (h : PB W b A c q1) => need_any b A c q1 [41] W h)
 rw [hn, take_no hn] at KT0
 rw [hi, take_yes hi, hp1] at KT
 rw [hq] at KN
 have hdw : IntKind.i64.wrap ((d : Int) + 1) = (d1 : Int) := by rw [IntWalk.i64_in _ (by omega)]; omega
 have HE := Lib.hid he
 clear h k0 hA hr hi he hp1 hq hn hd hd1
 go_enter Tryz.func76, Tryz.ntmps76
 go_upto_region 1 with fail
 generalize (w.alloc (.cells #[.int .i64 0, .int .i64 0, .int .i64 0, .int .i64 0, .string ⟨#[]⟩, .int .i64 0, .string ⟨#[]⟩, .slice none 0 0] 33)) = w1 at *
 have hz1 := HS1.out
 have hbp := (h1).blk; obtain ⟨hlp, hllp, qp0, qp1, qp2, qp3, qp4, qp5, zp0, zp1, zp2, zp3, zp4, zp5⟩ := bf6 hbp; (try simp at qp0 qp1 qp2 qp3 qp4 qp5); have Hhbp := Lib.hid hbp; clear hbp
 rw [HE.out] at qp4
 clear h1
 go_wp2_with fail
 refine (KT0.out _ H1.out).mono ?_
 rintro e w2 ⟨rfl, h2, g2⟩
 have hz2 := g2.size
 have K2 := Lib.hid (K0.out.gr g2 (by omega))
 have G2 := Lib.hid (G1.out.trans g2)
 clear qp0 zp0 qp1 zp1 qp2 zp2 qp3 zp3 qp4 zp4 qp5 zp5 hlp hllp Hhbp
 go_wp2_with fail
 refine (KT.out _ h2).mono ?_
 rintro e w3 ⟨rfl, h3, g3⟩
 have hz3 := g3.size
 have K3 := Lib.hid (K2.out.gr g3 (by omega))
 have G3 := Lib.hid (G2.out.trans g3)
 clear h2 g2 g3 KT KT0
 go_wp2_with fail
 refine (KE.out _ h3).mono ?_
 rintro e w4 ⟨⟨cs, rfl, hx⟩, h4, g4⟩
 have hz4 := g4.size
 have K4 := Lib.hid (K3.out.gr g4 (by omega))
 have G4 := Lib.hid (G3.out.trans g4)
 obtain ⟨o, k, n, s, y2, m, r2, B, l, cc, rfl⟩ := hx.cells
 have X4 := Lib.hid ((hx.mono fun g hg _ => (show w.heap.size + 1 ≤ g by omega)).top (Nat.le_refl _))
 have kA : Blk (w4.alloc (.cells #[.int .i64 0, .int .i64 0, .int .i64 0, .int .i64 0, .string ⟨#[]⟩, .int .i64 0, .string ⟨#[]⟩, .slice none 0 0] 33)) w4.heap.size 33 #[.int .i64 0, .int .i64 0, .int .i64 0, .int .i64 0, .string ⟨#[]⟩, .int .i64 0, .string ⟨#[]⟩, .slice none 0 0] := Blk.new _ _ _
 have HP4 := Lib.hid h4
 clear hx h3 h4 g4
 go_upto_region 7 with (refine wpList_store_blk kA rfl _ _ _ (by rfl) _ (by rfl) (by rfl) (by repeat first | with_reducible first | exact kA | apply Blk.alloc | apply Blk.drew | refine Blk.far ?_ (by simp <;> omega) _ | refine Blk.turn ?_ ‹_› (by omega)) (by rfl) (by kernel_rfl) (by simp [Value.oneCell']) ?_; intro wt kAn ht)
 have hb5 : Below w4.heap.size w4 wt := bturn (balloc (Below.refl _ _) _) ht (Nat.le_refl _)
 have K5 := Lib.hid (K4.out.step hb5)
 have kA5 := Lib.hid kAn
 have hz5 : w4.heap.size < wt.heap.size := kAn.lt
 have h5 := HP4.out.step hb5
 have G5 := Lib.hid (G4.out.bstep hb5)
 have X5 := Lib.hid (X4.out.step hb5)
 clear kA kAn HP4 G4 X4 hb5 ht
 go_wp2_with fail
 refine (KN.out _ h5).mono ?_
 rintro e w6 ⟨rfl, h6, g6⟩
 have k6 := K5.out.gr g6 (by omega)
 have kA6 := kA5.out.gr g6 (by omega)
 have G6 := Lib.hid (G5.out.trans g6)
 have X6 := Lib.hid (X5.out.gr g6 fun g hg => by omega)
 have H6 := Lib.hid h6
 clear h5 h6 g6
 go_wp2_with (first | (refine wpList_load_blk kA6 rfl _ _ (by rfl) (by rfl) (by (repeat first | with_reducible first | exact kA6 | apply Blk.alloc | apply Blk.drew | refine Blk.far ?_ (by simp <;> omega) _ | refine Blk.turn ?_ ‹_› (by omega))) _ Tryz.underlying33 rfl (by kernel_rfl) ?_) | (refine wpList_store_blk k6 rfl _ _ _ (by rfl) _ (by rfl) (by rfl) (by repeat first | with_reducible first | exact k6 | apply Blk.alloc | apply Blk.drew | refine Blk.far ?_ (by simp <;> omega) _ | refine Blk.turn ?_ ‹_› (by omega)) (by rfl) (by kernel_rfl) (by simp [Value.oneCell']) ?_; intro wt k6n ht))
 refine ret_blk rfl k6n rfl Tryz.underlying33 rfl (by kernel_rfl) rfl ?_
 exact ⟨⟨_, rfl, (X6.out.turn ht fun g hg => by omega).mono fun g hg _ => by omega⟩, H.out.turnF HR.out.symm H6.out ht (Nat.le_refl _), Gr.turnFar G6.out ht (Nat.le_refl _)⟩
theorem pref_3 (b : Nat) (A : Option Addr) (c : Nat) (p : PS) (p1 p2 q1 q2 : PS) (x1 : Ex) (d d1 : Nat) (w : World) (h : PB w b A c p) (he : p.e = 0) (hn : p.isS [45] = false) (hn2 : p.isS [40] = false) (hi : p.isS bNot = true) (hp1 : p.adv = p1) (hp2 : p1.need [40] = p2) (hq : q1.need [41] = q2) (hr : q1.L = p.L) (hd : d ≤ 300000) (hd1 : d1 = d + 1) (hm0 : 0 ≤ q2.md) (hm1 : q2.md ≤ 200000)
   (KE : Hid (∀ W, PB W b A c p2 → Calls Tryz.prog 25 #[.pointer (some ⟨b, 0, none⟩), .int .i64 (d1 : Int)] W fun e w' => EOut b A c W w' (x1, q1) e)) :
   Calls Tryz.prog 76 #[.pointer (some ⟨b, 0, none⟩), .int .i64 (d : Int)] w fun e w' => EOut b A c w w' (.mk 16 zeroV [] [x1], q2.made) e := by
 have hlw := h.blk.lt
 have k0 : Blk (w.alloc (.cells #[.int .i64 0, .int .i64 0, .int .i64 0, .int .i64 0, .string ⟨#[]⟩, .int .i64 0, .string ⟨#[]⟩, .slice none 0 0] 33)) w.heap.size 33 #[.int .i64 0, .int .i64 0, .int .i64 0, .int .i64 0, .string ⟨#[]⟩, .int .i64 0, .string ⟨#[]⟩, .slice none 0 0] := Blk.new _ _ _
 have hA : Below w.heap.size w (w.alloc (.cells #[.int .i64 0, .int .i64 0, .int .i64 0, .int .i64 0, .string ⟨#[]⟩, .int .i64 0, .string ⟨#[]⟩, .slice none 0 0] 33)) := by (repeat' first | (with_reducible first | exact .refl _ _ | assumption | apply balloc | apply Below.drew | apply bset | refine bstep ?_ ‹_› | refine bturn ?_ ‹_› ?_) | go_size)
 have H1 := Lib.hid (h.step hA)
 have K0 := Lib.hid k0
 have G1 := Lib.hid (Gr.of hA : Gr b w _)
 have HS1 : Hid ((w.alloc (.cells #[.int .i64 0, .int .i64 0, .int .i64 0, .int .i64 0, .string ⟨#[]⟩, .int .i64 0, .string ⟨#[]⟩, .slice none 0 0] 33)).heap.size = w.heap.size + 1) := Lib.hid (by simp)
 have H := Lib.hid h
 have h1 := H1.out
 have HR : Hid (q2.made.L = p.L) := Lib.hid ((made_L _).trans (by rw [← hq]; exact (need_L _ _).trans hr))
 have KT0 := Lib.hid (fun (W : World) (h : PB W b A c p) => take_any b A c p [45] W h)
 have KT1 := Lib.hid (fun (W : World) (h : PB W b A c p) => take_any b A c p [40] W h)
 have KT := Lib.hid (fun (W : World) (h : PB W b A c p) => take_any b A c p bNot W h)
 have KO := Lib.hid (fun (W : World) (h : PB W b A c p1) => need_any b A c p1 [40] W h)
 have KN := Lib.hid (fun (W : World) (h : PB W b A c q1) => need_any b A c q1 [41] W h)
 have KM := Lib.hid (fun (B : Option Addr) (n cp : Nat) (W : World) (h : PB W b A c q2) => emake_any b A c q2 16 B n cp W h hm0 hm1)
 rw [hn, take_no hn] at KT0
 rw [hn2, take_no hn2] at KT1
 rw [hi, take_yes hi, hp1] at KT
 rw [hp2] at KO
 rw [hq] at KN
 have hdw : IntKind.i64.wrap ((d : Int) + 1) = (d1 : Int) := by rw [IntWalk.i64_in _ (by omega)]; omega
 have HE := Lib.hid he
 clear h k0 hA hr hi he hp1 hp2 hq hn hn2 hd hd1 hm0 hm1
 go_enter Tryz.func76, Tryz.ntmps76
 go_upto_region 1 with fail
 generalize (w.alloc (.cells #[.int .i64 0, .int .i64 0, .int .i64 0, .int .i64 0, .string ⟨#[]⟩, .int .i64 0, .string ⟨#[]⟩, .slice none 0 0] 33)) = w1 at *
 have hz1 := HS1.out
 have hbp := (h1).blk; obtain ⟨hlp, hllp, qp0, qp1, qp2, qp3, qp4, qp5, zp0, zp1, zp2, zp3, zp4, zp5⟩ := bf6 hbp; (try simp at qp0 qp1 qp2 qp3 qp4 qp5); have Hhbp := Lib.hid hbp; clear hbp
 rw [HE.out] at qp4
 clear h1
 go_wp2_with fail
 refine (KT0.out _ H1.out).mono ?_
 rintro e w2 ⟨rfl, h2, g2⟩
 have hz2 := g2.size
 have K2 := Lib.hid (K0.out.gr g2 (by omega))
 have G2 := Lib.hid (G1.out.trans g2)
 clear qp0 zp0 qp1 zp1 qp2 zp2 qp3 zp3 qp4 zp4 qp5 zp5 hlp hllp Hhbp
 go_wp2_with fail
 refine (KT1.out _ h2).mono ?_
 rintro e w3 ⟨rfl, h3, g3⟩
 have hz3 := g3.size
 have K3 := Lib.hid (K2.out.gr g3 (by omega))
 have G3 := Lib.hid (G2.out.trans g3)
 clear h2
 go_wp2_with fail
 refine (KT.out _ h3).mono ?_
 rintro e w4 ⟨rfl, h4, g4⟩
 have hz4 := g4.size
 have K4 := Lib.hid (K3.out.gr g4 (by omega))
 have G4 := Lib.hid (G3.out.trans g4)
 clear h3
 go_wp2_with fail
 refine (KO.out _ h4).mono ?_
 rintro e w5 ⟨rfl, h5, g5⟩
 have hz5 := g5.size
 have K5 := Lib.hid (K4.out.gr g5 (by omega))
 have G5 := Lib.hid (G4.out.trans g5)
 clear g2 g3 g4 g5 KT KT0 KT1 KO
 go_wp2_with fail
 refine (KE.out _ h5).mono ?_
 rintro e w6 ⟨⟨cs, rfl, hx⟩, h6, g6⟩
 have hz6 := g6.size
 have K6 := Lib.hid (K5.out.gr g6 (by omega))
 have G6 := Lib.hid (G5.out.trans g6)
 obtain ⟨o, k, n, s, y2, m, r2, B, l, cc, rfl⟩ := hx.cells
 have X6 := Lib.hid ((hx.mono fun g hg _ => (show w.heap.size + 1 ≤ g by omega)).top (Nat.le_refl _))
 have kA : Blk (w6.alloc (.cells #[.int .i64 0, .int .i64 0, .int .i64 0, .int .i64 0, .string ⟨#[]⟩, .int .i64 0, .string ⟨#[]⟩, .slice none 0 0] 33)) w6.heap.size 33 #[.int .i64 0, .int .i64 0, .int .i64 0, .int .i64 0, .string ⟨#[]⟩, .int .i64 0, .string ⟨#[]⟩, .slice none 0 0] := Blk.new _ _ _
 have HP6 := Lib.hid h6
 clear hx h5 h6 g6
 go_upto_region 12 with (refine wpList_store_blk kA rfl _ _ _ (by rfl) _ (by rfl) (by rfl) (by repeat first | with_reducible first | exact kA | apply Blk.alloc | apply Blk.drew | refine Blk.far ?_ (by simp <;> omega) _ | refine Blk.turn ?_ ‹_› (by omega)) (by rfl) (by kernel_rfl) (by simp [Value.oneCell']) ?_; intro wt kAn ht)
 have hb7 : Below w6.heap.size w6 wt := bturn (balloc (Below.refl _ _) _) ht (Nat.le_refl _)
 have K7 := Lib.hid (K6.out.step hb7)
 have kA7 := Lib.hid kAn
 have hz7 : w6.heap.size < wt.heap.size := kAn.lt
 have h7 := HP6.out.step hb7
 have G7 := Lib.hid (G6.out.bstep hb7)
 have X7 := Lib.hid (X6.out.step hb7)
 clear kA kAn HP6 G6 X6 hb7 ht
 go_wp2_with fail
 refine (KN.out _ h7).mono ?_
 rintro e w8 ⟨rfl, h8, g8⟩
 have hz8 := g8.size
 have K8 := Lib.hid (K7.out.gr g8 (by omega))
 have kA8 := kA7.out.gr g8 (by omega)
 have G8 := Lib.hid (G7.out.trans g8)
 have X8 := Lib.hid (X7.out.gr g8 fun g hg => by omega)
 have HP8 := Lib.hid h8
 clear h7 h8 g8
 obtain ⟨hlu, hllu, qu0, qu1, qu2, qu3, qu4, qu5, qu6, qu7, zu0, zu1, zu2, zu3, zu4, zu5, zu6, zu7⟩ := bf8 kA8; (try simp at qu0 qu1 qu2 qu3 qu4 qu5 qu6 qu7); have HkA8 := Lib.hid kA8; clear kA8
 go_wp2_with fail
 refine (KM.out _ _ _ _ (HP8.out.step (by (repeat' first | (with_reducible first | exact .refl _ _ | assumption | apply balloc | apply Below.drew | apply bset | refine bstep ?_ ‹_› | refine bturn ?_ ‹_› ?_) | go_size)))).mono ?_
 rintro e w9 ⟨rfl, h9, g9⟩
 have KK := Lib.hid ((Blk.new w8 33 #[.int .i64 o, .int .i64 k, .int .i64 n, .int .i64 s, .string y2, .int .i64 m, .string r2, .slice B l cc]).gr g9 (by omega))
 have X9 := Lib.hid ((X8.out.step (balloc (Below.refl _ _) _)).gr g9 fun g hg => by omega)
 have k9 := (K8.out.alloc _).gr g9 (by omega)
 have G9 := Lib.hid ((G8.out.alloc _).trans g9)
 clear qu0 qu1 qu2 qu3 qu4 qu5 qu6 qu7 zu0 zu1 zu2 zu3 zu4 zu5 zu6 zu7 hlu hllu
 go_wp2_with (refine wpList_store_blk k9 rfl _ _ _ (by rfl) _ (by rfl) (by rfl) (by repeat first | with_reducible first | exact k9 | apply Blk.alloc | apply Blk.drew | refine Blk.far ?_ (by simp <;> omega) _ | refine Blk.turn ?_ ‹_› (by omega)) (by rfl) (by kernel_rfl) (by simp [Value.oneCell']) ?_; intro wt k9n ht)
 refine ret_blk rfl k9n rfl Tryz.underlying33 rfl (by kernel_rfl) rfl ?_
 exact ⟨⟨_, rfl, (XM.one (KK.out.turn ht (by omega)) rfl (show w.heap.size + 1 ≤ w8.heap.size by omega) ((X9.out.turn ht fun g hg => by omega).mono fun g hg _ => hg.1) 1).mono fun g hg _ => by omega⟩, H.out.turnF HR.out.symm h9 ht (Nat.le_refl _), Gr.turnFar G9.out ht (Nat.le_refl _)⟩
end Go.Proofs.YtapilekangmcoaaGreatDoor
namespace Go.Proofs.YtapilekangmcoaaGreatDoor
open Go.RowKit
theorem pref_6 (b : Nat) (A : Option Addr) (c : Nat) (p : PS) (d : Nat) (w : World) (h : PB w b A c p) (he : p.e = 0) (hn : p.isS [45] = false) (hn2 : p.isS [40] = false) (hn3 : p.isS bNot = false) (hv : p.val = none) (hc : p.L.length ≤ p.nx ∨ ∃ t, p.L[p.nx]? = some t ∧ ¬ t.k = 4) :
   Calls Tryz.prog 76 #[.pointer (some ⟨b, 0, none⟩), .int .i64 (d : Int)] w fun e w' => EOut b A c w w' (zeroE, p.fail 5) e := by
 have hlw := h.blk.lt
 have k0 : Blk (w.alloc (.cells #[.int .i64 0, .int .i64 0, .int .i64 0, .int .i64 0, .string ⟨#[]⟩, .int .i64 0, .string ⟨#[]⟩, .slice none 0 0] 33)) w.heap.size 33 #[.int .i64 0, .int .i64 0, .int .i64 0, .int .i64 0, .string ⟨#[]⟩, .int .i64 0, .string ⟨#[]⟩, .slice none 0 0] := Blk.new _ _ _
 have hA : Below w.heap.size w (w.alloc (.cells #[.int .i64 0, .int .i64 0, .int .i64 0, .int .i64 0, .string ⟨#[]⟩, .int .i64 0, .string ⟨#[]⟩, .slice none 0 0] 33)) := by (repeat' first | (with_reducible first | exact .refl _ _ | assumption | apply balloc | apply Below.drew | apply bset | refine bstep ?_ ‹_› | refine bturn ?_ ‹_› ?_) | go_size)
 have H1 := Lib.hid (h.step hA)
 have K0 := Lib.hid k0
 have G1 := Lib.hid (Gr.of hA : Gr b w _)
 have HS1 : Hid ((w.alloc (.cells #[.int .i64 0, .int .i64 0, .int .i64 0, .int .i64 0, .string ⟨#[]⟩, .int .i64 0, .string ⟨#[]⟩, .slice none 0 0] 33)).heap.size = w.heap.size + 1) := Lib.hid (by simp)
 have H := Lib.hid h
 have h1 := H1.out
 have KT0 := Lib.hid (fun (W : World) (h : PB W b A c p) => take_any b A c p [45] W h)
 have KT1 := Lib.hid (fun (W : World) (h : PB W b A c p) => take_any b A c p [40] W h)
 have KT2 := Lib.hid (fun (W : World) (h : PB W b A c p) => take_any b A c p bNot W h)
 rw [hn, take_no hn] at KT0
 rw [hn2, take_no hn2] at KT1
 rw [hn3, take_no hn3] at KT2
 have HE := Lib.hid he
 have KV := Lib.hid (fun (W : World) (h : PB W b A c p) => value_any b A c p W h)
 rw [hv] at KV
 have KV2 : Hid (∀ W, PB W b A c p → Calls Tryz.prog 119 #[.pointer (some ⟨b, 0, none⟩)] W fun e w' => e = .returned (.tuple #[.agg #[.int .i64 0, .int .i64 0, .int .i64 0, .string ⟨#[]⟩, .int .i64 0], .bool false]) ∧ PB w' b A c p ∧ Gr b W w') := Lib.hid (fun W h => KV.out W h)
 have KF := Lib.hid (fun (W : World) (h : PB W b A c p) => fail_any b A c p 5 W h)
 clear h k0 hA hn hn2 hn3 he hv KV
 rcases hc with hc | ⟨t, ht, hk⟩
 · have hni : decide (p.nx < p.L.length) = false := decide_eq_false (by omega)
   go_enter Tryz.func76, Tryz.ntmps76
   go_upto_region 1 with fail
   generalize (w.alloc (.cells #[.int .i64 0, .int .i64 0, .int .i64 0, .int .i64 0, .string ⟨#[]⟩, .int .i64 0, .string ⟨#[]⟩, .slice none 0 0] 33)) = w1 at *
   have hz1 := HS1.out
   have hbp := (h1).blk; obtain ⟨hlp, hllp, qp0, qp1, qp2, qp3, qp4, qp5, zp0, zp1, zp2, zp3, zp4, zp5⟩ := bf6 hbp; (try simp at qp0 qp1 qp2 qp3 qp4 qp5); have Hhbp := Lib.hid hbp; clear hbp
   rw [HE.out] at qp4
   clear h1
   go_wp2_with fail
   refine (KT0.out _ H1.out).mono ?_
   rintro e w2 ⟨rfl, h2, g2⟩
   have hz2 := g2.size
   have K2 := Lib.hid (K0.out.gr g2 (by omega))
   have G2 := Lib.hid (G1.out.trans g2)
   clear qp0 zp0 qp1 zp1 qp2 zp2 qp3 zp3 qp4 zp4 qp5 zp5 hlp hllp Hhbp
   go_wp2_with fail
   refine (KT1.out _ h2).mono ?_
   rintro e w3 ⟨rfl, h3, g3⟩
   have hz3 := g3.size
   have K3 := Lib.hid (K2.out.gr g3 (by omega))
   have G3 := Lib.hid (G2.out.trans g3)
   clear h2
   go_wp2_with fail
   refine (KT2.out _ h3).mono ?_
   rintro e w4 ⟨rfl, h4, g4⟩
   have hz4 := g4.size
   have K4 := Lib.hid (K3.out.gr g4 (by omega))
   have G4 := Lib.hid (G3.out.trans g4)
   clear h3
   clear g2 g3 g4 KT0 KT1 KT2
   go_wp2_with fail
   refine (KV2.out _ h4).mono ?_
   rintro e w5 ⟨rfl, h5, g5⟩
   have hz5 := g5.size
   have K5 := Lib.hid (K4.out.gr g5 (by omega))
   have G5 := Lib.hid (G4.out.trans g5)
   have HP5 := Lib.hid h5
   have kv : Blk (w5.alloc (.cells #[.int .i64 0, .int .i64 0, .int .i64 0, .string ⟨#[]⟩, .int .i64 0] 25)) w5.heap.size 25 #[.int .i64 0, .int .i64 0, .int .i64 0, .string ⟨#[]⟩, .int .i64 0] := Blk.new _ _ _
   clear h4 h5 g5 KV2
   go_upto_region 19 with (refine wpList_store_blk kv rfl _ _ _ (by rfl) _ (by rfl) (by rfl) (by repeat first | with_reducible first | exact kv | apply Blk.alloc | apply Blk.drew | refine Blk.far ?_ (by simp <;> omega) _ | refine Blk.turn ?_ ‹_› (by omega)) (by rfl) (by kernel_rfl) (by simp [Value.oneCell']) ?_; intro wt kvn ht)
   have hb6 : Below w5.heap.size w5 wt := bturn (balloc (Below.refl _ _) _) ht (Nat.le_refl _)
   have K6 := Lib.hid (K5.out.step hb6)
   have hz6 : w5.heap.size < wt.heap.size := kvn.lt
   have h6 := HP5.out.step hb6
   have H6 := Lib.hid h6
   have G6 := Lib.hid (G5.out.bstep hb6)
   clear kv kvn HP5 G5 hb6 ht
   have hbr := (h6).blk; obtain ⟨hlr, hllr, qr0, qr1, qr2, qr3, qr4, qr5, zr0, zr1, zr2, zr3, zr4, zr5⟩ := bf6 hbr; (try simp at qr0 qr1 qr2 qr3 qr4 qr5); have Hhbr := Lib.hid hbr; clear hbr
   rw [HE.out] at qr4
   clear h6
   go_cut [99] (fun z wx => z = .bool false ∧ Below wt.heap.size wt wx)
   case first =>
     go_quiet (fail)
     go_wp2_with fail
     go_meet
     case rel => exact ⟨rfl, by (repeat' first | (with_reducible first | apply bdrewN | exact .refl _ _ | assumption | apply balloc | apply Below.drew | apply bset | refine bstep ?_ ‹_› | refine bturn ?_ ‹_› ?_) | go_size)⟩
   case rest =>
     obtain ⟨rfl, hb7⟩ := hcut
     clear qr0 zr0 qr1 zr1 qr2 zr2 qr3 zr3 qr4 zr4 qr5 zr5 hlr hllr Hhbr
     go_upto_region 24 with fail
     have H7 := Lib.hid (H6.out.step hb7)
     have K7 := Lib.hid (K6.out.step hb7)
     have G7 := Lib.hid (G6.out.bstep hb7)
     have hz7 := hb7.size
     clear H6 K6 G6 hb7
     go_wp2_with fail
     refine (KF.out _ H7.out).mono ?_
     rintro e w8 ⟨rfl, h8, g8⟩
     have k8 := K7.out.gr g8 (by omega)
     have H8 := Lib.hid h8
     have G8 := Lib.hid (G7.out.trans g8)
     clear h8 g8
     go_wp2_with (refine wpList_store_blk k8 rfl _ _ _ (by rfl) _ (by rfl) (by rfl) (by repeat first | with_reducible first | exact k8 | apply Blk.alloc | apply Blk.drew | refine Blk.far ?_ (by simp <;> omega) _ | refine Blk.turn ?_ ‹_› (by omega)) (by rfl) (by kernel_rfl) (by simp [Value.oneCell']) ?_; intro wt k8n ht)
     refine ret_blk rfl k8n rfl Tryz.underlying33 rfl (by kernel_rfl) rfl ?_
     exact ⟨⟨_, rfl, zero_xm⟩, H.out.turnF (fail_L _ _).symm H8.out ht (Nat.le_refl _), Gr.turnFar G8.out ht (Nat.le_refl _)⟩
 · have HT := Lib.hid ht
   have hnl : p.nx < p.L.length := (List.getElem?_eq_some_iff.1 ht).1
   have hni : (p.nx : Int) < (p.L.length : Int) := by omega
   have hnd : decide (p.nx < p.L.length) = true := decide_eq_true hnl
   have hkd : decide (t.k = 4) = false := decide_eq_false hk
   have hkb : (t.k == 4) = false := by simpa using hk
   obtain ⟨tk, hkk⟩ : ∃ z, t.k = z := ⟨_, rfl⟩
   rw [hkk] at hkb hkd
   have HKK := Lib.hid hkk
   clear ht hk hkk
   go_enter Tryz.func76, Tryz.ntmps76
   go_upto_region 1 with fail
   generalize (w.alloc (.cells #[.int .i64 0, .int .i64 0, .int .i64 0, .int .i64 0, .string ⟨#[]⟩, .int .i64 0, .string ⟨#[]⟩, .slice none 0 0] 33)) = w1 at *
   have hz1 := HS1.out
   have hbp := (h1).blk; obtain ⟨hlp, hllp, qp0, qp1, qp2, qp3, qp4, qp5, zp0, zp1, zp2, zp3, zp4, zp5⟩ := bf6 hbp; (try simp at qp0 qp1 qp2 qp3 qp4 qp5); have Hhbp := Lib.hid hbp; clear hbp
   rw [HE.out] at qp4
   clear h1
   go_wp2_with fail
   refine (KT0.out _ H1.out).mono ?_
   rintro e w2 ⟨rfl, h2, g2⟩
   have hz2 := g2.size
   have K2 := Lib.hid (K0.out.gr g2 (by omega))
   have G2 := Lib.hid (G1.out.trans g2)
   clear qp0 zp0 qp1 zp1 qp2 zp2 qp3 zp3 qp4 zp4 qp5 zp5 hlp hllp Hhbp
   go_wp2_with fail
   refine (KT1.out _ h2).mono ?_
   rintro e w3 ⟨rfl, h3, g3⟩
   have hz3 := g3.size
   have K3 := Lib.hid (K2.out.gr g3 (by omega))
   have G3 := Lib.hid (G2.out.trans g3)
   clear h2
   go_wp2_with fail
   refine (KT2.out _ h3).mono ?_
   rintro e w4 ⟨rfl, h4, g4⟩
   have hz4 := g4.size
   have K4 := Lib.hid (K3.out.gr g4 (by omega))
   have G4 := Lib.hid (G3.out.trans g4)
   clear h3
   clear g2 g3 g4 KT0 KT1 KT2
   go_wp2_with fail
   refine (KV2.out _ h4).mono ?_
   rintro e w5 ⟨rfl, h5, g5⟩
   have hz5 := g5.size
   have K5 := Lib.hid (K4.out.gr g5 (by omega))
   have G5 := Lib.hid (G4.out.trans g5)
   have HP5 := Lib.hid h5
   have kv : Blk (w5.alloc (.cells #[.int .i64 0, .int .i64 0, .int .i64 0, .string ⟨#[]⟩, .int .i64 0] 25)) w5.heap.size 25 #[.int .i64 0, .int .i64 0, .int .i64 0, .string ⟨#[]⟩, .int .i64 0] := Blk.new _ _ _
   clear h4 h5 g5 KV2
   go_upto_region 19 with (refine wpList_store_blk kv rfl _ _ _ (by rfl) _ (by rfl) (by rfl) (by repeat first | with_reducible first | exact kv | apply Blk.alloc | apply Blk.drew | refine Blk.far ?_ (by simp <;> omega) _ | refine Blk.turn ?_ ‹_› (by omega)) (by rfl) (by kernel_rfl) (by simp [Value.oneCell']) ?_; intro wt kvn ht)
   have hb6 : Below w5.heap.size w5 wt := bturn (balloc (Below.refl _ _) _) ht (Nat.le_refl _)
   have K6 := Lib.hid (K5.out.step hb6)
   have hz6 : w5.heap.size < wt.heap.size := kvn.lt
   have h6 := HP5.out.step hb6
   have H6 := Lib.hid h6
   have G6 := Lib.hid (G5.out.bstep hb6)
   clear kv kvn HP5 G5 hb6 ht
   obtain ⟨g, f, rfl, c0, c1, c2, c3, c4, c5⟩ := tm_get h6.tm HT.out
   rw [HKK.out] at c0
   clear c1 c2 c3 c4 c5
   have hbr := (h6).blk; obtain ⟨hlr, hllr, qr0, qr1, qr2, qr3, qr4, qr5, zr0, zr1, zr2, zr3, zr4, zr5⟩ := bf6 hbr; (try simp at qr0 qr1 qr2 qr3 qr4 qr5); have Hhbr := Lib.hid hbr; clear hbr
   rw [HE.out] at qr4
   clear h6
   go_cut [99] (fun z wx => z = .bool false ∧ Below wt.heap.size wt wx)
   case first =>
     go_quiet (fail)
     go_wp2_with fail
     go_meet
     case rel => exact ⟨rfl, by (repeat' first | (with_reducible first | apply bdrewN | exact .refl _ _ | assumption | apply balloc | apply Below.drew | apply bset | refine bstep ?_ ‹_› | refine bturn ?_ ‹_› ?_) | go_size)⟩
   case rest =>
     obtain ⟨rfl, hb7⟩ := hcut
     clear qr0 zr0 qr1 zr1 qr2 zr2 qr3 zr3 qr4 zr4 qr5 zr5 hlr hllr Hhbr
     clear c0
     go_upto_region 24 with fail
     have H7 := Lib.hid (H6.out.step hb7)
     have K7 := Lib.hid (K6.out.step hb7)
     have G7 := Lib.hid (G6.out.bstep hb7)
     have hz7 := hb7.size
     clear H6 K6 G6 hb7
     go_wp2_with fail
     refine (KF.out _ H7.out).mono ?_
     rintro e w8 ⟨rfl, h8, g8⟩
     have k8 := K7.out.gr g8 (by omega)
     have H8 := Lib.hid h8
     have G8 := Lib.hid (G7.out.trans g8)
     clear h8 g8
     go_wp2_with (refine wpList_store_blk k8 rfl _ _ _ (by rfl) _ (by rfl) (by rfl) (by repeat first | with_reducible first | exact k8 | apply Blk.alloc | apply Blk.drew | refine Blk.far ?_ (by simp <;> omega) _ | refine Blk.turn ?_ ‹_› (by omega)) (by rfl) (by kernel_rfl) (by simp [Value.oneCell']) ?_; intro wt k8n ht)
     refine ret_blk rfl k8n rfl Tryz.underlying33 rfl (by kernel_rfl) rfl ?_
     exact ⟨⟨_, rfl, zero_xm⟩, H.out.turnF (fail_L _ _).symm H8.out ht (Nat.le_refl _), Gr.turnFar G8.out ht (Nat.le_refl _)⟩
end Go.Proofs.YtapilekangmcoaaGreatDoor
