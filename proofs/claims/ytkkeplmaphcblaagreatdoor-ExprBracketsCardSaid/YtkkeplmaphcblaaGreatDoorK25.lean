/- The walks of expr.Parser's prefix: nothing more, a minus, brackets, not. Printed by genpre.py. The walks of expr.Parser's prefix at a value. Printed by genpre.py. The walk of expr.Parser's prefix where nothing may stand. Printed by genpre.py. The walk of the reference's Same of expressions (layer 8). The walk of value.Text at a sound value. The walks of expr.write at a value, a name, a minus and a not. The walks of expr.write, kind by kind. Printed by genwr.py. The walks of the laws' big: whether an expression is great. Printed by genbig.py. Expressions that came in as an argument: how they read. The walk of expr.Same, for any two expressions. -/
import Derived.Test.YtkkeplmaphcblaaGreatDoorK23
import Derived.Test.YtkkeplmaphcblaaGreatDoorK8
import Derived.Test.YtkkeplmaphcblaaGreatDoorK9
import Derived.Test.YtkkeplmaphcblaaGreatDoorK22
import Derived.Deep.QuietTactic
import Derived.BigQuiet
import Derived.Test.YtkkeplmaphcblaaGreatDoorK4
namespace Go.Proofs.YtkkeplmaphcblaaGreatDoor
open Go.RowKit

set_option maxHeartbeats 8000000 in
set_option maxRecDepth 100000 in
theorem pref_0 (b : Nat) (A : Option Addr) (c : Nat) (p : PS) (d : Nat) (w : World) (h : PB w b A c p) (he : ¬ p.e = 0) :
    Calls Tryz.prog 118 #[.pointer (some ⟨b, 0, none⟩), .int .i64 (d : Int)] w fun e w' => EOut b A c w w' (zeroE, p) e := by
  have hlw := h.blk.lt
  have k0 : Blk (w.alloc (.cells #[.int .i64 0, .int .i64 0, .int .i64 0, .int .i64 0, .string ⟨#[]⟩, .int .i64 0, .string ⟨#[]⟩, .slice none 0 0] 33)) w.heap.size 33 #[.int .i64 0, .int .i64 0, .int .i64 0, .int .i64 0, .string ⟨#[]⟩, .int .i64 0, .string ⟨#[]⟩, .slice none 0 0] := Blk.new _ _ _
  have hA : Below w.heap.size w (w.alloc (.cells #[.int .i64 0, .int .i64 0, .int .i64 0, .int .i64 0, .string ⟨#[]⟩, .int .i64 0, .string ⟨#[]⟩, .slice none 0 0] 33)) := by (repeat' (first | (with_reducible exact Below.refl _ _) | (with_reducible assumption) | (with_reducible refine balloc ?_ _) | (with_reducible refine Below.drew ?_) | (with_reducible refine bset ?_ ?_ _) | (with_reducible refine bstep ?_ (by with_reducible assumption)) | (with_reducible refine bturn ?_ (by with_reducible assumption) ?_) | go_size))
  have H1 := Lib.hid (h.step hA)
  have K0 := Lib.hid k0
  have G1 := Lib.hid (Gr.of hA : Gr b w _)
  have HS1 : Hid ((w.alloc (.cells #[.int .i64 0, .int .i64 0, .int .i64 0, .int .i64 0, .string ⟨#[]⟩, .int .i64 0, .string ⟨#[]⟩, .slice none 0 0] 33)).heap.size = w.heap.size + 1) := Lib.hid (by simp)
  have H := Lib.hid h
  have h1 := H1.out
  have hne : (p.e != 0) = true := by simpa using he
  clear h k0 hA he
  go_enter Tryz.func118, Tryz.ntmps118
  go_upto_region 1 with fail
  generalize (w.alloc (.cells #[.int .i64 0, .int .i64 0, .int .i64 0, .int .i64 0, .string ⟨#[]⟩, .int .i64 0, .string ⟨#[]⟩, .slice none 0 0] 33)) = w1 at *
  have hz1 := HS1.out
  have hbp := (h1).blk; have hlp := hbp.lt; have hllp := lts hlp; have qp0 := hbp.cell 0; have qp1 := hbp.cell 1; have qp2 := hbp.cell 2; have qp3 := hbp.cell 3; have qp4 := hbp.cell 4; have qp5 := hbp.cell 5; simp at qp0 qp1 qp2 qp3 qp4 qp5; have zp0 := hbp.frozen 0; have zp1 := hbp.frozen 1; have zp2 := hbp.frozen 2; have zp3 := hbp.frozen 3; have zp4 := hbp.frozen 4; have zp5 := hbp.frozen 5; have Hhbp := Lib.hid hbp; clear hbp
  have k1 := K0.out
  clear h1
  go_wp2_with (refine wpList_store_blk k1 rfl _ _ _ (by rfl) _ (by rfl) (by rfl) (by (repeat (first | (with_reducible exact k1) | (with_reducible refine Blk.alloc ?_ _) | (with_reducible refine Blk.drew ?_) | (with_reducible refine Blk.far ?_ (by first | (simp; done) | (simp; omega)) _) | (with_reducible refine Blk.turn ?_ (by with_reducible assumption) (by omega))))) (by rfl) (by kernel_rfl) (by simp [Value.oneCell']) ?_; intro wt k1n ht)
  refine ret_blk rfl k1n rfl Tryz.underlying33 rfl (by kernel_rfl) rfl ?_
  exact ⟨⟨_, rfl, zero_xm⟩, H.out.turnF rfl H1.out ht (Nat.le_refl _), Gr.turnFar G1.out ht (Nat.le_refl _)⟩
set_option maxHeartbeats 8000000 in
set_option maxRecDepth 100000 in
theorem pref_1 (b : Nat) (A : Option Addr) (c : Nat) (p : PS) (p1 q1 : PS) (x1 : Ex) (d : Nat) (w : World) (h : PB w b A c p) (he : p.e = 0) (hi : p.isS [45] = true) (hp1 : p.adv = p1) (hm0 : 0 ≤ q1.md) (hm1 : q1.md ≤ 200000) (hr : q1.L = p.L)
    (KP : Hid (∀ W, PB W b A c p1 → Calls Tryz.prog 118 #[.pointer (some ⟨b, 0, none⟩), .int .i64 (d : Int)] W fun e w' => EOut b A c W w' (x1, q1) e)) :
    Calls Tryz.prog 118 #[.pointer (some ⟨b, 0, none⟩), .int .i64 (d : Int)] w fun e w' => EOut b A c w w' (.mk 3 zeroV [] [x1], q1.made) e := by
  have hlw := h.blk.lt
  have k0 : Blk (w.alloc (.cells #[.int .i64 0, .int .i64 0, .int .i64 0, .int .i64 0, .string ⟨#[]⟩, .int .i64 0, .string ⟨#[]⟩, .slice none 0 0] 33)) w.heap.size 33 #[.int .i64 0, .int .i64 0, .int .i64 0, .int .i64 0, .string ⟨#[]⟩, .int .i64 0, .string ⟨#[]⟩, .slice none 0 0] := Blk.new _ _ _
  have hA : Below w.heap.size w (w.alloc (.cells #[.int .i64 0, .int .i64 0, .int .i64 0, .int .i64 0, .string ⟨#[]⟩, .int .i64 0, .string ⟨#[]⟩, .slice none 0 0] 33)) := by (repeat' (first | (with_reducible exact Below.refl _ _) | (with_reducible assumption) | (with_reducible refine balloc ?_ _) | (with_reducible refine Below.drew ?_) | (with_reducible refine bset ?_ ?_ _) | (with_reducible refine bstep ?_ (by with_reducible assumption)) | (with_reducible refine bturn ?_ (by with_reducible assumption) ?_) | go_size))
  have H1 := Lib.hid (h.step hA)
  have K0 := Lib.hid k0
  have G1 := Lib.hid (Gr.of hA : Gr b w _)
  have HS1 : Hid ((w.alloc (.cells #[.int .i64 0, .int .i64 0, .int .i64 0, .int .i64 0, .string ⟨#[]⟩, .int .i64 0, .string ⟨#[]⟩, .slice none 0 0] 33)).heap.size = w.heap.size + 1) := Lib.hid (by simp)
  have H := Lib.hid h
  have h1 := H1.out
  have HR : Hid (q1.made.L = p.L) := Lib.hid ((made_L q1).trans hr)
  have KT := Lib.hid (fun (W : World) (h : PB W b A c p) => take_any b A c p [45] W h)
  have KM := Lib.hid (fun (B : Option Addr) (n cp : Nat) (W : World) (h : PB W b A c q1) => emake_any b A c q1 3 B n cp W h hm0 hm1)
  rw [hi, take_yes hi, hp1] at KT
  have HE := Lib.hid he
  clear h k0 hA hr hi he hp1 hm0 hm1
  go_enter Tryz.func118, Tryz.ntmps118
  go_upto_region 1 with fail
  generalize (w.alloc (.cells #[.int .i64 0, .int .i64 0, .int .i64 0, .int .i64 0, .string ⟨#[]⟩, .int .i64 0, .string ⟨#[]⟩, .slice none 0 0] 33)) = w1 at *
  have hz1 := HS1.out
  have hbp := (h1).blk; have hlp := hbp.lt; have hllp := lts hlp; have qp0 := hbp.cell 0; have qp1 := hbp.cell 1; have qp2 := hbp.cell 2; have qp3 := hbp.cell 3; have qp4 := hbp.cell 4; have qp5 := hbp.cell 5; simp at qp0 qp1 qp2 qp3 qp4 qp5; have zp0 := hbp.frozen 0; have zp1 := hbp.frozen 1; have zp2 := hbp.frozen 2; have zp3 := hbp.frozen 3; have zp4 := hbp.frozen 4; have zp5 := hbp.frozen 5; have Hhbp := Lib.hid hbp; clear hbp
  rw [HE.out] at qp4
  clear h1
  go_wp2_with fail
  refine (KT.out _ H1.out).mono ?_
  rintro e w2 ⟨rfl, h2, g2⟩
  have hz2 := g2.size
  have K2 := Lib.hid (K0.out.gr g2 (by omega))
  have G2 := Lib.hid (G1.out.trans g2)
  clear qp0 zp0 qp1 zp1 qp2 zp2 qp3 zp3 qp4 zp4 qp5 zp5 hlp hllp Hhbp
  go_wp2_with fail
  refine (KP.out _ h2).mono ?_
  rintro e w3 ⟨⟨cs, rfl, hx⟩, h3, g3⟩
  have hz3 := g3.size
  have K3 := Lib.hid (K2.out.gr g3 (by omega))
  have G3 := Lib.hid (G2.out.trans g3)
  obtain ⟨o, k, n, s, q2, m, r2, B, l, cc, rfl⟩ := hx.cells
  have X3 := Lib.hid (hx.mono fun g hg _ => (show w.heap.size + 1 ≤ g by omega))
  have HP3 := Lib.hid h3
  clear hx h2 h3 g3 g2
  go_wp2_with fail
  refine (KM.out _ _ _ _ (HP3.out.step (by (repeat' (first | (with_reducible exact Below.refl _ _) | (with_reducible assumption) | (with_reducible refine balloc ?_ _) | (with_reducible refine Below.drew ?_) | (with_reducible refine bset ?_ ?_ _) | (with_reducible refine bstep ?_ (by with_reducible assumption)) | (with_reducible refine bturn ?_ (by with_reducible assumption) ?_) | go_size))))).mono ?_
  rintro e w4 ⟨rfl, h4, g4⟩
  have KK := Lib.hid ((Blk.new w3 33 #[.int .i64 o, .int .i64 k, .int .i64 n, .int .i64 s, .string q2, .int .i64 m, .string r2, .slice B l cc]).gr g4 (by omega))
  have X4 := Lib.hid ((X3.out.step (balloc (Below.refl _ _) _)).gr g4 fun g hg => by omega)
  have k4 := (K3.out.alloc _).gr g4 (by omega)
  have G4 := Lib.hid ((G3.out.alloc _).trans g4)
  go_wp2_with (refine wpList_store_blk k4 rfl _ _ _ (by rfl) _ (by rfl) (by rfl) (by (repeat (first | (with_reducible exact k4) | (with_reducible refine Blk.alloc ?_ _) | (with_reducible refine Blk.drew ?_) | (with_reducible refine Blk.far ?_ (by first | (simp; done) | (simp; omega)) _) | (with_reducible refine Blk.turn ?_ (by with_reducible assumption) (by omega))))) (by rfl) (by kernel_rfl) (by simp [Value.oneCell']) ?_; intro wt k4n ht)
  refine ret_blk rfl k4n rfl Tryz.underlying33 rfl (by kernel_rfl) rfl ?_
  exact ⟨⟨_, rfl, (XM.one (KK.out.turn ht (by omega)) rfl (show w.heap.size + 1 ≤ w3.heap.size by omega) (X4.out.turn ht fun g hg => by omega) 1).mono fun g hg _ => by omega⟩, H.out.turnF HR.out.symm h4 ht (Nat.le_refl _), Gr.turnFar G4.out ht (Nat.le_refl _)⟩
set_option maxHeartbeats 8000000 in
set_option maxRecDepth 100000 in
theorem pref_2 (b : Nat) (A : Option Addr) (c : Nat) (p : PS) (p1 q1 q2 : PS) (x1 : Ex) (d d1 : Nat) (w : World) (h : PB w b A c p) (he : p.e = 0) (hn : p.isS [45] = false) (hi : p.isS [40] = true) (hp1 : p.adv = p1) (hq : q1.need [41] = q2) (hr : q1.L = p.L) (hd : d ≤ 300000) (hd1 : d1 = d + 1)
    (KE : Hid (∀ W, PB W b A c p1 → Calls Tryz.prog 42 #[.pointer (some ⟨b, 0, none⟩), .int .i64 (d1 : Int)] W fun e w' => EOut b A c W w' (x1, q1) e)) :
    Calls Tryz.prog 118 #[.pointer (some ⟨b, 0, none⟩), .int .i64 (d : Int)] w fun e w' => EOut b A c w w' (x1, q2) e := by
  have hlw := h.blk.lt
  have k0 : Blk (w.alloc (.cells #[.int .i64 0, .int .i64 0, .int .i64 0, .int .i64 0, .string ⟨#[]⟩, .int .i64 0, .string ⟨#[]⟩, .slice none 0 0] 33)) w.heap.size 33 #[.int .i64 0, .int .i64 0, .int .i64 0, .int .i64 0, .string ⟨#[]⟩, .int .i64 0, .string ⟨#[]⟩, .slice none 0 0] := Blk.new _ _ _
  have hA : Below w.heap.size w (w.alloc (.cells #[.int .i64 0, .int .i64 0, .int .i64 0, .int .i64 0, .string ⟨#[]⟩, .int .i64 0, .string ⟨#[]⟩, .slice none 0 0] 33)) := by (repeat' (first | (with_reducible exact Below.refl _ _) | (with_reducible assumption) | (with_reducible refine balloc ?_ _) | (with_reducible refine Below.drew ?_) | (with_reducible refine bset ?_ ?_ _) | (with_reducible refine bstep ?_ (by with_reducible assumption)) | (with_reducible refine bturn ?_ (by with_reducible assumption) ?_) | go_size))
  have H1 := Lib.hid (h.step hA)
  have K0 := Lib.hid k0
  have G1 := Lib.hid (Gr.of hA : Gr b w _)
  have HS1 : Hid ((w.alloc (.cells #[.int .i64 0, .int .i64 0, .int .i64 0, .int .i64 0, .string ⟨#[]⟩, .int .i64 0, .string ⟨#[]⟩, .slice none 0 0] 33)).heap.size = w.heap.size + 1) := Lib.hid (by simp)
  have H := Lib.hid h
  have h1 := H1.out
  have HR : Hid (q2.L = p.L) := Lib.hid (by rw [← hq]; exact (need_L _ _).trans hr)
  have KT0 := Lib.hid (fun (W : World) (h : PB W b A c p) => take_any b A c p [45] W h)
  have KT := Lib.hid (fun (W : World) (h : PB W b A c p) => take_any b A c p [40] W h)
  have KN := Lib.hid (fun (W : World) (h : PB W b A c q1) => need_any b A c q1 [41] W h)
  rw [hn, take_no hn] at KT0
  rw [hi, take_yes hi, hp1] at KT
  rw [hq] at KN
  have hdw : IntKind.i64.wrap ((d : Int) + 1) = (d1 : Int) := by rw [IntWalk.i64_in _ (by omega)]; omega
  have HE := Lib.hid he
  clear h k0 hA hr hi he hp1 hq hn hd hd1
  go_enter Tryz.func118, Tryz.ntmps118
  go_upto_region 1 with fail
  generalize (w.alloc (.cells #[.int .i64 0, .int .i64 0, .int .i64 0, .int .i64 0, .string ⟨#[]⟩, .int .i64 0, .string ⟨#[]⟩, .slice none 0 0] 33)) = w1 at *
  have hz1 := HS1.out
  have hbp := (h1).blk; have hlp := hbp.lt; have hllp := lts hlp; have qp0 := hbp.cell 0; have qp1 := hbp.cell 1; have qp2 := hbp.cell 2; have qp3 := hbp.cell 3; have qp4 := hbp.cell 4; have qp5 := hbp.cell 5; simp at qp0 qp1 qp2 qp3 qp4 qp5; have zp0 := hbp.frozen 0; have zp1 := hbp.frozen 1; have zp2 := hbp.frozen 2; have zp3 := hbp.frozen 3; have zp4 := hbp.frozen 4; have zp5 := hbp.frozen 5; have Hhbp := Lib.hid hbp; clear hbp
  rw [HE.out] at qp4
  clear h1
  go_wp2_with fail
  refine (KT0.out _ H1.out).mono ?_
  rintro e w2 ⟨rfl, h2, g2⟩
  have hz2 := g2.size
  have K2 := Lib.hid (K0.out.gr g2 (by omega))
  have G2 := Lib.hid (G1.out.trans g2)
  clear qp0 zp0 qp1 zp1 qp2 zp2 qp3 zp3 qp4 zp4 qp5 zp5 hlp hllp Hhbp
  go_wp2_with fail
  refine (KT.out _ h2).mono ?_
  rintro e w3 ⟨rfl, h3, g3⟩
  have hz3 := g3.size
  have K3 := Lib.hid (K2.out.gr g3 (by omega))
  have G3 := Lib.hid (G2.out.trans g3)
  clear h2 g2 g3 KT KT0
  go_wp2_with fail
  refine (KE.out _ h3).mono ?_
  rintro e w4 ⟨⟨cs, rfl, hx⟩, h4, g4⟩
  have hz4 := g4.size
  have K4 := Lib.hid (K3.out.gr g4 (by omega))
  have G4 := Lib.hid (G3.out.trans g4)
  obtain ⟨o, k, n, s, y2, m, r2, B, l, cc, rfl⟩ := hx.cells
  have X4 := Lib.hid ((hx.mono fun g hg _ => (show w.heap.size + 1 ≤ g by omega)).top (Nat.le_refl _))
  have kA : Blk (w4.alloc (.cells #[.int .i64 0, .int .i64 0, .int .i64 0, .int .i64 0, .string ⟨#[]⟩, .int .i64 0, .string ⟨#[]⟩, .slice none 0 0] 33)) w4.heap.size 33 #[.int .i64 0, .int .i64 0, .int .i64 0, .int .i64 0, .string ⟨#[]⟩, .int .i64 0, .string ⟨#[]⟩, .slice none 0 0] := Blk.new _ _ _
  have HP4 := Lib.hid h4
  clear hx h3 h4 g4
  go_upto_region 7 with (refine wpList_store_blk kA rfl _ _ _ (by rfl) _ (by rfl) (by rfl) (by (repeat (first | (with_reducible exact kA) | (with_reducible refine Blk.alloc ?_ _) | (with_reducible refine Blk.drew ?_) | (with_reducible refine Blk.far ?_ (by first | (simp; done) | (simp; omega)) _) | (with_reducible refine Blk.turn ?_ (by with_reducible assumption) (by omega))))) (by rfl) (by kernel_rfl) (by simp [Value.oneCell']) ?_; intro wt kAn ht)
  have hb5 : Below w4.heap.size w4 wt := bturn (balloc (Below.refl _ _) _) ht (Nat.le_refl _)
  have K5 := Lib.hid (K4.out.step hb5)
  have kA5 := Lib.hid kAn
  have hz5 : w4.heap.size < wt.heap.size := kAn.lt
  have h5 := HP4.out.step hb5
  have G5 := Lib.hid (G4.out.bstep hb5)
  have X5 := Lib.hid (X4.out.step hb5)
  clear kA kAn HP4 G4 X4 hb5 ht
  go_wp2_with fail
  refine (KN.out _ h5).mono ?_
  rintro e w6 ⟨rfl, h6, g6⟩
  have k6 := K5.out.gr g6 (by omega)
  have kA6 := kA5.out.gr g6 (by omega)
  have G6 := Lib.hid (G5.out.trans g6)
  have X6 := Lib.hid (X5.out.gr g6 fun g hg => by omega)
  have H6 := Lib.hid h6
  clear h5 h6 g6
  go_wp2_with (first | (refine wpList_load_blk kA6 rfl _ _ (by rfl) (by rfl) (by (repeat (first | (with_reducible exact kA6) | (with_reducible refine Blk.alloc ?_ _) | (with_reducible refine Blk.drew ?_) | (with_reducible refine Blk.far ?_ (by first | (simp; done) | (simp; omega)) _) | (with_reducible refine Blk.turn ?_ (by with_reducible assumption) (by omega))))) _ Tryz.underlying33 rfl (by kernel_rfl) ?_) | (refine wpList_store_blk k6 rfl _ _ _ (by rfl) _ (by rfl) (by rfl) (by (repeat (first | (with_reducible exact k6) | (with_reducible refine Blk.alloc ?_ _) | (with_reducible refine Blk.drew ?_) | (with_reducible refine Blk.far ?_ (by first | (simp; done) | (simp; omega)) _) | (with_reducible refine Blk.turn ?_ (by with_reducible assumption) (by omega))))) (by rfl) (by kernel_rfl) (by simp [Value.oneCell']) ?_; intro wt k6n ht))
  refine ret_blk rfl k6n rfl Tryz.underlying33 rfl (by kernel_rfl) rfl ?_
  exact ⟨⟨_, rfl, (X6.out.turn ht fun g hg => by omega).mono fun g hg _ => by omega⟩, H.out.turnF HR.out.symm H6.out ht (Nat.le_refl _), Gr.turnFar G6.out ht (Nat.le_refl _)⟩
set_option maxHeartbeats 8000000 in
set_option maxRecDepth 100000 in
theorem pref_3 (b : Nat) (A : Option Addr) (c : Nat) (p : PS) (p1 p2 q1 q2 : PS) (x1 : Ex) (d d1 : Nat) (w : World) (h : PB w b A c p) (he : p.e = 0) (hn : p.isS [45] = false) (hn2 : p.isS [40] = false) (hi : p.isS bNot = true) (hp1 : p.adv = p1) (hp2 : p1.need [40] = p2) (hq : q1.need [41] = q2) (hr : q1.L = p.L) (hd : d ≤ 300000) (hd1 : d1 = d + 1) (hm0 : 0 ≤ q2.md) (hm1 : q2.md ≤ 200000)
    (KE : Hid (∀ W, PB W b A c p2 → Calls Tryz.prog 42 #[.pointer (some ⟨b, 0, none⟩), .int .i64 (d1 : Int)] W fun e w' => EOut b A c W w' (x1, q1) e)) :
    Calls Tryz.prog 118 #[.pointer (some ⟨b, 0, none⟩), .int .i64 (d : Int)] w fun e w' => EOut b A c w w' (.mk 16 zeroV [] [x1], q2.made) e := by
  have hlw := h.blk.lt
  have k0 : Blk (w.alloc (.cells #[.int .i64 0, .int .i64 0, .int .i64 0, .int .i64 0, .string ⟨#[]⟩, .int .i64 0, .string ⟨#[]⟩, .slice none 0 0] 33)) w.heap.size 33 #[.int .i64 0, .int .i64 0, .int .i64 0, .int .i64 0, .string ⟨#[]⟩, .int .i64 0, .string ⟨#[]⟩, .slice none 0 0] := Blk.new _ _ _
  have hA : Below w.heap.size w (w.alloc (.cells #[.int .i64 0, .int .i64 0, .int .i64 0, .int .i64 0, .string ⟨#[]⟩, .int .i64 0, .string ⟨#[]⟩, .slice none 0 0] 33)) := by (repeat' (first | (with_reducible exact Below.refl _ _) | (with_reducible assumption) | (with_reducible refine balloc ?_ _) | (with_reducible refine Below.drew ?_) | (with_reducible refine bset ?_ ?_ _) | (with_reducible refine bstep ?_ (by with_reducible assumption)) | (with_reducible refine bturn ?_ (by with_reducible assumption) ?_) | go_size))
  have H1 := Lib.hid (h.step hA)
  have K0 := Lib.hid k0
  have G1 := Lib.hid (Gr.of hA : Gr b w _)
  have HS1 : Hid ((w.alloc (.cells #[.int .i64 0, .int .i64 0, .int .i64 0, .int .i64 0, .string ⟨#[]⟩, .int .i64 0, .string ⟨#[]⟩, .slice none 0 0] 33)).heap.size = w.heap.size + 1) := Lib.hid (by simp)
  have H := Lib.hid h
  have h1 := H1.out
  have HR : Hid (q2.made.L = p.L) := Lib.hid ((made_L _).trans (by rw [← hq]; exact (need_L _ _).trans hr))
  have KT0 := Lib.hid (fun (W : World) (h : PB W b A c p) => take_any b A c p [45] W h)
  have KT1 := Lib.hid (fun (W : World) (h : PB W b A c p) => take_any b A c p [40] W h)
  have KT := Lib.hid (fun (W : World) (h : PB W b A c p) => take_any b A c p bNot W h)
  have KO := Lib.hid (fun (W : World) (h : PB W b A c p1) => need_any b A c p1 [40] W h)
  have KN := Lib.hid (fun (W : World) (h : PB W b A c q1) => need_any b A c q1 [41] W h)
  have KM := Lib.hid (fun (B : Option Addr) (n cp : Nat) (W : World) (h : PB W b A c q2) => emake_any b A c q2 16 B n cp W h hm0 hm1)
  rw [hn, take_no hn] at KT0
  rw [hn2, take_no hn2] at KT1
  rw [hi, take_yes hi, hp1] at KT
  rw [hp2] at KO
  rw [hq] at KN
  have hdw : IntKind.i64.wrap ((d : Int) + 1) = (d1 : Int) := by rw [IntWalk.i64_in _ (by omega)]; omega
  have HE := Lib.hid he
  clear h k0 hA hr hi he hp1 hp2 hq hn hn2 hd hd1 hm0 hm1
  go_enter Tryz.func118, Tryz.ntmps118
  go_upto_region 1 with fail
  generalize (w.alloc (.cells #[.int .i64 0, .int .i64 0, .int .i64 0, .int .i64 0, .string ⟨#[]⟩, .int .i64 0, .string ⟨#[]⟩, .slice none 0 0] 33)) = w1 at *
  have hz1 := HS1.out
  have hbp := (h1).blk; have hlp := hbp.lt; have hllp := lts hlp; have qp0 := hbp.cell 0; have qp1 := hbp.cell 1; have qp2 := hbp.cell 2; have qp3 := hbp.cell 3; have qp4 := hbp.cell 4; have qp5 := hbp.cell 5; simp at qp0 qp1 qp2 qp3 qp4 qp5; have zp0 := hbp.frozen 0; have zp1 := hbp.frozen 1; have zp2 := hbp.frozen 2; have zp3 := hbp.frozen 3; have zp4 := hbp.frozen 4; have zp5 := hbp.frozen 5; have Hhbp := Lib.hid hbp; clear hbp
  rw [HE.out] at qp4
  clear h1
  go_wp2_with fail
  refine (KT0.out _ H1.out).mono ?_
  rintro e w2 ⟨rfl, h2, g2⟩
  have hz2 := g2.size
  have K2 := Lib.hid (K0.out.gr g2 (by omega))
  have G2 := Lib.hid (G1.out.trans g2)
  clear qp0 zp0 qp1 zp1 qp2 zp2 qp3 zp3 qp4 zp4 qp5 zp5 hlp hllp Hhbp
  go_wp2_with fail
  refine (KT1.out _ h2).mono ?_
  rintro e w3 ⟨rfl, h3, g3⟩
  have hz3 := g3.size
  have K3 := Lib.hid (K2.out.gr g3 (by omega))
  have G3 := Lib.hid (G2.out.trans g3)
  clear h2
  go_wp2_with fail
  refine (KT.out _ h3).mono ?_
  rintro e w4 ⟨rfl, h4, g4⟩
  have hz4 := g4.size
  have K4 := Lib.hid (K3.out.gr g4 (by omega))
  have G4 := Lib.hid (G3.out.trans g4)
  clear h3
  go_wp2_with fail
  refine (KO.out _ h4).mono ?_
  rintro e w5 ⟨rfl, h5, g5⟩
  have hz5 := g5.size
  have K5 := Lib.hid (K4.out.gr g5 (by omega))
  have G5 := Lib.hid (G4.out.trans g5)
  clear g2 g3 g4 g5 KT KT0 KT1 KO
  go_wp2_with fail
  refine (KE.out _ h5).mono ?_
  rintro e w6 ⟨⟨cs, rfl, hx⟩, h6, g6⟩
  have hz6 := g6.size
  have K6 := Lib.hid (K5.out.gr g6 (by omega))
  have G6 := Lib.hid (G5.out.trans g6)
  obtain ⟨o, k, n, s, y2, m, r2, B, l, cc, rfl⟩ := hx.cells
  have X6 := Lib.hid ((hx.mono fun g hg _ => (show w.heap.size + 1 ≤ g by omega)).top (Nat.le_refl _))
  have kA : Blk (w6.alloc (.cells #[.int .i64 0, .int .i64 0, .int .i64 0, .int .i64 0, .string ⟨#[]⟩, .int .i64 0, .string ⟨#[]⟩, .slice none 0 0] 33)) w6.heap.size 33 #[.int .i64 0, .int .i64 0, .int .i64 0, .int .i64 0, .string ⟨#[]⟩, .int .i64 0, .string ⟨#[]⟩, .slice none 0 0] := Blk.new _ _ _
  have HP6 := Lib.hid h6
  clear hx h5 h6 g6
  go_upto_region 12 with (refine wpList_store_blk kA rfl _ _ _ (by rfl) _ (by rfl) (by rfl) (by (repeat (first | (with_reducible exact kA) | (with_reducible refine Blk.alloc ?_ _) | (with_reducible refine Blk.drew ?_) | (with_reducible refine Blk.far ?_ (by first | (simp; done) | (simp; omega)) _) | (with_reducible refine Blk.turn ?_ (by with_reducible assumption) (by omega))))) (by rfl) (by kernel_rfl) (by simp [Value.oneCell']) ?_; intro wt kAn ht)
  have hb7 : Below w6.heap.size w6 wt := bturn (balloc (Below.refl _ _) _) ht (Nat.le_refl _)
  have K7 := Lib.hid (K6.out.step hb7)
  have kA7 := Lib.hid kAn
  have hz7 : w6.heap.size < wt.heap.size := kAn.lt
  have h7 := HP6.out.step hb7
  have G7 := Lib.hid (G6.out.bstep hb7)
  have X7 := Lib.hid (X6.out.step hb7)
  clear kA kAn HP6 G6 X6 hb7 ht
  go_wp2_with fail
  refine (KN.out _ h7).mono ?_
  rintro e w8 ⟨rfl, h8, g8⟩
  have hz8 := g8.size
  have K8 := Lib.hid (K7.out.gr g8 (by omega))
  have kA8 := kA7.out.gr g8 (by omega)
  have G8 := Lib.hid (G7.out.trans g8)
  have X8 := Lib.hid (X7.out.gr g8 fun g hg => by omega)
  have HP8 := Lib.hid h8
  clear h7 h8 g8
  have hlu := kA8.lt; have hllu := lts hlu; have qu0 := kA8.cell 0; have qu1 := kA8.cell 1; have qu2 := kA8.cell 2; have qu3 := kA8.cell 3; have qu4 := kA8.cell 4; have qu5 := kA8.cell 5; have qu6 := kA8.cell 6; have qu7 := kA8.cell 7; simp at qu0 qu1 qu2 qu3 qu4 qu5 qu6 qu7; have zu0 := kA8.frozen 0; have zu1 := kA8.frozen 1; have zu2 := kA8.frozen 2; have zu3 := kA8.frozen 3; have zu4 := kA8.frozen 4; have zu5 := kA8.frozen 5; have zu6 := kA8.frozen 6; have zu7 := kA8.frozen 7; have HkA8 := Lib.hid kA8; clear kA8
  go_wp2_with fail
  refine (KM.out _ _ _ _ (HP8.out.step (by (repeat' (first | (with_reducible exact Below.refl _ _) | (with_reducible assumption) | (with_reducible refine balloc ?_ _) | (with_reducible refine Below.drew ?_) | (with_reducible refine bset ?_ ?_ _) | (with_reducible refine bstep ?_ (by with_reducible assumption)) | (with_reducible refine bturn ?_ (by with_reducible assumption) ?_) | go_size))))).mono ?_
  rintro e w9 ⟨rfl, h9, g9⟩
  have KK := Lib.hid ((Blk.new w8 33 #[.int .i64 o, .int .i64 k, .int .i64 n, .int .i64 s, .string y2, .int .i64 m, .string r2, .slice B l cc]).gr g9 (by omega))
  have X9 := Lib.hid ((X8.out.step (balloc (Below.refl _ _) _)).gr g9 fun g hg => by omega)
  have k9 := (K8.out.alloc _).gr g9 (by omega)
  have G9 := Lib.hid ((G8.out.alloc _).trans g9)
  clear qu0 qu1 qu2 qu3 qu4 qu5 qu6 qu7 zu0 zu1 zu2 zu3 zu4 zu5 zu6 zu7 hlu hllu
  go_wp2_with (refine wpList_store_blk k9 rfl _ _ _ (by rfl) _ (by rfl) (by rfl) (by (repeat (first | (with_reducible exact k9) | (with_reducible refine Blk.alloc ?_ _) | (with_reducible refine Blk.drew ?_) | (with_reducible refine Blk.far ?_ (by first | (simp; done) | (simp; omega)) _) | (with_reducible refine Blk.turn ?_ (by with_reducible assumption) (by omega))))) (by rfl) (by kernel_rfl) (by simp [Value.oneCell']) ?_; intro wt k9n ht)
  refine ret_blk rfl k9n rfl Tryz.underlying33 rfl (by kernel_rfl) rfl ?_
  exact ⟨⟨_, rfl, (XM.one (KK.out.turn ht (by omega)) rfl (show w.heap.size + 1 ≤ w8.heap.size by omega) ((X9.out.turn ht fun g hg => by omega).mono fun g hg _ => hg.1) 1).mono fun g hg _ => by omega⟩, H.out.turnF HR.out.symm h9 ht (Nat.le_refl _), Gr.turnFar G9.out ht (Nat.le_refl _)⟩
end Go.Proofs.YtkkeplmaphcblaaGreatDoor

namespace Go.Proofs.YtkkeplmaphcblaaGreatDoor
open Go.RowKit

theorem set5 {w : World} {g : Nat} {T : TypeId} {a0 a1 a2 a3 a4 a5 a6 a7 : Value} (h : Blk w g T #[a0, a1, a2, a3, a4, a5, a6, a7]) (b1 b2 b3 b4 b5 : Value) : Blk (((((w.setCell ⟨g, 1, none⟩ b1).setCell ⟨g, 2, none⟩ b2).setCell ⟨g, 3, none⟩ b3).setCell ⟨g, 4, none⟩ b4).setCell ⟨g, 5, none⟩ b5) g T #[a0, b1, b2, b3, b4, b5, a6, a7] ∧ Turned w (((((w.setCell ⟨g, 1, none⟩ b1).setCell ⟨g, 2, none⟩ b2).setCell ⟨g, 3, none⟩ b3).setCell ⟨g, 4, none⟩ b4).setCell ⟨g, 5, none⟩ b5) g := by
  refine ⟨?_, ?_⟩
  · have := ((((h.set_ 1 b1).set_ 2 b2).set_ 3 b3).set_ 4 b4).set_ 5 b5
    simpa using this
  · exact ((((Turned.setCell _ _ _ _).trans (Turned.setCell _ _ _ _)).trans (Turned.setCell _ _ _ _)).trans (Turned.setCell _ _ _ _)).trans (Turned.setCell _ _ _ _)
theorem ccellsV_eq {k n s m : Int} {t : Bs} {q : ByteArray} (h : bs t = q) : cellsV ⟨k, n, s, t, m⟩ = #[.int .i64 k, .int .i64 n, .int .i64 s, .string q, .int .i64 m] := by subst h; rfl
set_option maxHeartbeats 8000000 in
set_option maxRecDepth 100000 in
theorem pref_4 (b : Nat) (A : Option Addr) (c : Nat) (p : PS) (vk vn vs vm : Int) (vt : Bs) (d : Nat) (w : World) (h : PB w b A c p) (he : p.e = 0) (hn : p.isS [45] = false) (hn2 : p.isS [40] = false) (hn3 : p.isS bNot = false) (hv : p.val = some ⟨vk, vn, vs, vt, vm⟩) (hm0 : 0 ≤ p.md) (hm1 : p.md ≤ 200000) :
    Calls Tryz.prog 118 #[.pointer (some ⟨b, 0, none⟩), .int .i64 (d : Int)] w fun e w' => EOut b A c w w' (.mk 1 ⟨vk, vn, vs, vt, vm⟩ [] [], p.adv.made) e := by
  have hlw := h.blk.lt
  have k0 : Blk (w.alloc (.cells #[.int .i64 0, .int .i64 0, .int .i64 0, .int .i64 0, .string ⟨#[]⟩, .int .i64 0, .string ⟨#[]⟩, .slice none 0 0] 33)) w.heap.size 33 #[.int .i64 0, .int .i64 0, .int .i64 0, .int .i64 0, .string ⟨#[]⟩, .int .i64 0, .string ⟨#[]⟩, .slice none 0 0] := Blk.new _ _ _
  have hA : Below w.heap.size w (w.alloc (.cells #[.int .i64 0, .int .i64 0, .int .i64 0, .int .i64 0, .string ⟨#[]⟩, .int .i64 0, .string ⟨#[]⟩, .slice none 0 0] 33)) := by (repeat' (first | (with_reducible exact Below.refl _ _) | (with_reducible assumption) | (with_reducible refine balloc ?_ _) | (with_reducible refine Below.drew ?_) | (with_reducible refine bset ?_ ?_ _) | (with_reducible refine bstep ?_ (by with_reducible assumption)) | (with_reducible refine bturn ?_ (by with_reducible assumption) ?_) | go_size))
  have H1 := Lib.hid (h.step hA)
  have K0 := Lib.hid k0
  have G1 := Lib.hid (Gr.of hA : Gr b w _)
  have HS1 : Hid ((w.alloc (.cells #[.int .i64 0, .int .i64 0, .int .i64 0, .int .i64 0, .string ⟨#[]⟩, .int .i64 0, .string ⟨#[]⟩, .slice none 0 0] 33)).heap.size = w.heap.size + 1) := Lib.hid (by simp)
  have H := Lib.hid h
  have h1 := H1.out
  have KT0 := Lib.hid (fun (W : World) (h : PB W b A c p) => take_any b A c p [45] W h)
  have KT1 := Lib.hid (fun (W : World) (h : PB W b A c p) => take_any b A c p [40] W h)
  have KT2 := Lib.hid (fun (W : World) (h : PB W b A c p) => take_any b A c p bNot W h)
  rw [hn, take_no hn] at KT0
  rw [hn2, take_no hn2] at KT1
  rw [hn3, take_no hn3] at KT2
  have HE := Lib.hid he
  have KV := Lib.hid (fun (W : World) (h : PB W b A c p) => value_any b A c p W h)
  rw [hv] at KV
  have KM := Lib.hid (fun (B : Option Addr) (n cp : Nat) (W : World) (h : PB W b A c p.adv) => emake_any b A c p.adv 1 B n cp W h hm0 hm1)
  have HR : Hid (p.adv.made.L = p.L) := Lib.hid ((made_L _).trans rfl)
  obtain ⟨q, hq⟩ : ∃ q, bs vt = q := ⟨_, rfl⟩
  have hcv : cellsV ⟨vk, vn, vs, vt, vm⟩ = #[.int .i64 vk, .int .i64 vn, .int .i64 vs, .string q, .int .i64 vm] := ccellsV_eq hq
  have KV2 : Hid (∀ W, PB W b A c p → Calls Tryz.prog 168 #[.pointer (some ⟨b, 0, none⟩)] W fun e w' => e = .returned (.tuple #[.agg #[.int .i64 vk, .int .i64 vn, .int .i64 vs, .string q, .int .i64 vm], .bool true]) ∧ PB w' b A c p.adv ∧ Gr b W w') := Lib.hid (fun W h => by rw [← hcv]; exact KV.out W h)
  obtain ⟨pa, hpa⟩ : ∃ q, p.adv = q := ⟨_, rfl⟩
  rw [hpa] at KM HR KV2
  rw [hpa]
  have HQ := Lib.hid hq
  clear h k0 hA hn hn2 hn3 he hv hm0 hm1 hq hcv KV hpa
  go_enter Tryz.func118, Tryz.ntmps118
  go_upto_region 1 with fail
  generalize (w.alloc (.cells #[.int .i64 0, .int .i64 0, .int .i64 0, .int .i64 0, .string ⟨#[]⟩, .int .i64 0, .string ⟨#[]⟩, .slice none 0 0] 33)) = w1 at *
  have hz1 := HS1.out
  have hbp := (h1).blk; have hlp := hbp.lt; have hllp := lts hlp; have qp0 := hbp.cell 0; have qp1 := hbp.cell 1; have qp2 := hbp.cell 2; have qp3 := hbp.cell 3; have qp4 := hbp.cell 4; have qp5 := hbp.cell 5; simp at qp0 qp1 qp2 qp3 qp4 qp5; have zp0 := hbp.frozen 0; have zp1 := hbp.frozen 1; have zp2 := hbp.frozen 2; have zp3 := hbp.frozen 3; have zp4 := hbp.frozen 4; have zp5 := hbp.frozen 5; have Hhbp := Lib.hid hbp; clear hbp
  rw [HE.out] at qp4
  clear h1
  go_wp2_with fail
  refine (KT0.out _ H1.out).mono ?_
  rintro e w2 ⟨rfl, h2, g2⟩
  have hz2 := g2.size
  have K2 := Lib.hid (K0.out.gr g2 (by omega))
  have G2 := Lib.hid (G1.out.trans g2)
  clear qp0 zp0 qp1 zp1 qp2 zp2 qp3 zp3 qp4 zp4 qp5 zp5 hlp hllp Hhbp
  go_wp2_with fail
  refine (KT1.out _ h2).mono ?_
  rintro e w3 ⟨rfl, h3, g3⟩
  have hz3 := g3.size
  have K3 := Lib.hid (K2.out.gr g3 (by omega))
  have G3 := Lib.hid (G2.out.trans g3)
  clear h2
  go_wp2_with fail
  refine (KT2.out _ h3).mono ?_
  rintro e w4 ⟨rfl, h4, g4⟩
  have hz4 := g4.size
  have K4 := Lib.hid (K3.out.gr g4 (by omega))
  have G4 := Lib.hid (G3.out.trans g4)
  clear h3
  clear g2 g3 g4 KT0 KT1 KT2
  go_wp2_with fail
  refine (KV2.out _ h4).mono ?_
  rintro e w5 ⟨rfl, h5, g5⟩
  have hz5 := g5.size
  have K5 := Lib.hid (K4.out.gr g5 (by omega))
  have G5 := Lib.hid (G4.out.trans g5)
  have HP5 := Lib.hid h5
  have kv : Blk (w5.alloc (.cells #[.int .i64 0, .int .i64 0, .int .i64 0, .string ⟨#[]⟩, .int .i64 0] 25)) w5.heap.size 25 #[.int .i64 0, .int .i64 0, .int .i64 0, .string ⟨#[]⟩, .int .i64 0] := Blk.new _ _ _
  clear h4 h5 g5 KV2
  go_upto_region 15 with (refine wpList_store_blk kv rfl _ _ _ (by rfl) _ (by rfl) (by rfl) (by (repeat (first | (with_reducible exact kv) | (with_reducible refine Blk.alloc ?_ _) | (with_reducible refine Blk.drew ?_) | (with_reducible refine Blk.far ?_ (by first | (simp; done) | (simp; omega)) _) | (with_reducible refine Blk.turn ?_ (by with_reducible assumption) (by omega))))) (by rfl) (by kernel_rfl) (by simp [Value.oneCell']) ?_; intro wt kvn ht)
  have hb6 : Below w5.heap.size w5 wt := bturn (balloc (Below.refl _ _) _) ht (Nat.le_refl _)
  have K6 := Lib.hid (K5.out.step hb6)
  have KV6 := Lib.hid kvn
  have hz6 : w5.heap.size < wt.heap.size := kvn.lt
  have h6 := HP5.out.step hb6
  have G6 := Lib.hid (G5.out.bstep hb6)
  clear kv kvn HP5 G5 hb6 ht
  go_wp2_with fail
  refine (KM.out _ _ _ _ h6).mono ?_
  rintro e w7 ⟨rfl, h7, g7⟩
  have hz7 := g7.size
  have K7 := Lib.hid (K6.out.gr g7 (by omega))
  have KV7 := Lib.hid (KV6.out.gr g7 (by omega))
  have G7 := Lib.hid (G6.out.trans g7)
  have HP7 := Lib.hid h7
  have kn : Blk (w7.alloc (.cells #[.int .i64 0, .int .i64 0, .int .i64 0, .int .i64 0, .string ⟨#[]⟩, .int .i64 0, .string ⟨#[]⟩, .slice none 0 0] 33)) w7.heap.size 33 #[.int .i64 0, .int .i64 0, .int .i64 0, .int .i64 0, .string ⟨#[]⟩, .int .i64 0, .string ⟨#[]⟩, .slice none 0 0] := Blk.new _ _ _
  clear h6 h7 g7 KM
  go_upto_region 17 with (refine wpList_store_blk kn rfl _ _ _ (by rfl) _ (by rfl) (by rfl) (by (repeat (first | (with_reducible exact kn) | (with_reducible refine Blk.alloc ?_ _) | (with_reducible refine Blk.drew ?_) | (with_reducible refine Blk.far ?_ (by first | (simp; done) | (simp; omega)) _) | (with_reducible refine Blk.turn ?_ (by with_reducible assumption) (by omega))))) (by rfl) (by kernel_rfl) (by simp [Value.oneCell']) ?_; intro wt knn ht)
  have hb8 : Below w7.heap.size w7 wt := bturn (balloc (Below.refl _ _) _) ht (Nat.le_refl _)
  have K8 := Lib.hid (K7.out.step hb8)
  have kv8 := KV7.out.step hb8
  have KN8 := Lib.hid knn
  have hz8 : w7.heap.size < wt.heap.size := knn.lt
  have HP8 := Lib.hid (HP7.out.step hb8)
  have G8 := Lib.hid (G7.out.bstep hb8)
  have kn8 := KN8.out
  clear kn knn HP7 G7 hb8 ht
  have hlv := kv8.lt; have hllv := lts hlv; have qv0 := kv8.cell 0; have qv1 := kv8.cell 1; have qv2 := kv8.cell 2; have qv3 := kv8.cell 3; have qv4 := kv8.cell 4; simp at qv0 qv1 qv2 qv3 qv4; have zv0 := kv8.frozen 0; have zv1 := kv8.frozen 1; have zv2 := kv8.frozen 2; have zv3 := kv8.frozen 3; have zv4 := kv8.frozen 4; have Hkv8 := Lib.hid kv8; clear kv8
  have hln := kn8.lt; have hlln := lts hln; have qn0 := kn8.cell 0; have qn1 := kn8.cell 1; have qn2 := kn8.cell 2; have qn3 := kn8.cell 3; have qn4 := kn8.cell 4; have qn5 := kn8.cell 5; have qn6 := kn8.cell 6; have qn7 := kn8.cell 7; simp at qn0 qn1 qn2 qn3 qn4 qn5 qn6 qn7; have zn0 := kn8.frozen 0; have zn1 := kn8.frozen 1; have zn2 := kn8.frozen 2; have zn3 := kn8.frozen 3; have zn4 := kn8.frozen 4; have zn5 := kn8.frozen 5; have zn6 := kn8.frozen 6; have zn7 := kn8.frozen 7; have Hkn8 := Lib.hid kn8; clear kn8
  go_upto_region 18 with fail
  obtain ⟨e1, e2⟩ := set5 KN8.out (.int .i64 vk) (.int .i64 vn) (.int .i64 vs) (.string q) (.int .i64 vm)
  clear qv0 qv1 qv2 qv3 qv4 zv0 zv1 zv2 zv3 zv4 hlv hllv qn0 qn1 qn2 qn3 qn4 qn5 qn6 qn7 zn0 zn1 zn2 zn3 zn4 zn5 zn6 zn7 hln hlln
  generalize (((((wt.setCell ⟨w7.heap.size, 1, none⟩ (.int .i64 vk)).setCell ⟨w7.heap.size, 2, none⟩ (.int .i64 vn)).setCell ⟨w7.heap.size, 3, none⟩ (.int .i64 vs)).setCell ⟨w7.heap.size, 4, none⟩ (.string q)).setCell ⟨w7.heap.size, 5, none⟩ (.int .i64 vm)) = w9 at *
  have k9 := K8.out.turn e2 (by omega)
  have h9 : PB w9 b A c pa.made := H.out.turnF HR.out.symm HP8.out e2 (by omega)
  have g9 : Gr b w w9 := Gr.turnFar G8.out e2 (by omega)
  have H9 := Lib.hid h9
  have G9 := Lib.hid g9
  clear h9 g9 e2
  go_wp2_with (first | (refine wpList_load_blk e1 rfl _ _ (by rfl) (by rfl) (by (repeat (first | (with_reducible exact e1) | (with_reducible refine Blk.alloc ?_ _) | (with_reducible refine Blk.drew ?_) | (with_reducible refine Blk.far ?_ (by first | (simp; done) | (simp; omega)) _) | (with_reducible refine Blk.turn ?_ (by with_reducible assumption) (by omega))))) _ Tryz.underlying33 rfl (by kernel_rfl) ?_) | (refine wpList_store_blk k9 rfl _ _ _ (by rfl) _ (by rfl) (by rfl) (by (repeat (first | (with_reducible exact k9) | (with_reducible refine Blk.alloc ?_ _) | (with_reducible refine Blk.drew ?_) | (with_reducible refine Blk.far ?_ (by first | (simp; done) | (simp; omega)) _) | (with_reducible refine Blk.turn ?_ (by with_reducible assumption) (by omega))))) (by rfl) (by kernel_rfl) (by simp [Value.oneCell']) ?_; intro wt k9n ht))
  refine ret_blk rfl k9n rfl Tryz.underlying33 rfl (by kernel_rfl) rfl ?_
  exact ⟨⟨_, rfl, by rw [← HQ.out]; exact XM.nil none 0⟩, H.out.turnF HR.out.symm H9.out ht (Nat.le_refl _), Gr.turnFar G9.out ht (Nat.le_refl _)⟩
end Go.Proofs.YtkkeplmaphcblaaGreatDoor

namespace Go.Proofs.YtkkeplmaphcblaaGreatDoor
open Go.RowKit

set_option maxHeartbeats 8000000 in
set_option maxRecDepth 100000 in
theorem pref_6 (b : Nat) (A : Option Addr) (c : Nat) (p : PS) (d : Nat) (w : World) (h : PB w b A c p) (he : p.e = 0) (hn : p.isS [45] = false) (hn2 : p.isS [40] = false) (hn3 : p.isS bNot = false) (hv : p.val = none) (hc : p.L.length ≤ p.nx ∨ ∃ t, p.L[p.nx]? = some t ∧ ¬ t.k = 4) :
    Calls Tryz.prog 118 #[.pointer (some ⟨b, 0, none⟩), .int .i64 (d : Int)] w fun e w' => EOut b A c w w' (zeroE, p.fail 5) e := by
  have hlw := h.blk.lt
  have k0 : Blk (w.alloc (.cells #[.int .i64 0, .int .i64 0, .int .i64 0, .int .i64 0, .string ⟨#[]⟩, .int .i64 0, .string ⟨#[]⟩, .slice none 0 0] 33)) w.heap.size 33 #[.int .i64 0, .int .i64 0, .int .i64 0, .int .i64 0, .string ⟨#[]⟩, .int .i64 0, .string ⟨#[]⟩, .slice none 0 0] := Blk.new _ _ _
  have hA : Below w.heap.size w (w.alloc (.cells #[.int .i64 0, .int .i64 0, .int .i64 0, .int .i64 0, .string ⟨#[]⟩, .int .i64 0, .string ⟨#[]⟩, .slice none 0 0] 33)) := by (repeat' (first | (with_reducible exact Below.refl _ _) | (with_reducible assumption) | (with_reducible refine balloc ?_ _) | (with_reducible refine Below.drew ?_) | (with_reducible refine bset ?_ ?_ _) | (with_reducible refine bstep ?_ (by with_reducible assumption)) | (with_reducible refine bturn ?_ (by with_reducible assumption) ?_) | go_size))
  have H1 := Lib.hid (h.step hA)
  have K0 := Lib.hid k0
  have G1 := Lib.hid (Gr.of hA : Gr b w _)
  have HS1 : Hid ((w.alloc (.cells #[.int .i64 0, .int .i64 0, .int .i64 0, .int .i64 0, .string ⟨#[]⟩, .int .i64 0, .string ⟨#[]⟩, .slice none 0 0] 33)).heap.size = w.heap.size + 1) := Lib.hid (by simp)
  have H := Lib.hid h
  have h1 := H1.out
  have KT0 := Lib.hid (fun (W : World) (h : PB W b A c p) => take_any b A c p [45] W h)
  have KT1 := Lib.hid (fun (W : World) (h : PB W b A c p) => take_any b A c p [40] W h)
  have KT2 := Lib.hid (fun (W : World) (h : PB W b A c p) => take_any b A c p bNot W h)
  rw [hn, take_no hn] at KT0
  rw [hn2, take_no hn2] at KT1
  rw [hn3, take_no hn3] at KT2
  have HE := Lib.hid he
  have KV := Lib.hid (fun (W : World) (h : PB W b A c p) => value_any b A c p W h)
  rw [hv] at KV
  have KV2 : Hid (∀ W, PB W b A c p → Calls Tryz.prog 168 #[.pointer (some ⟨b, 0, none⟩)] W fun e w' => e = .returned (.tuple #[.agg #[.int .i64 0, .int .i64 0, .int .i64 0, .string ⟨#[]⟩, .int .i64 0], .bool false]) ∧ PB w' b A c p ∧ Gr b W w') := Lib.hid (fun W h => KV.out W h)
  have KF := Lib.hid (fun (W : World) (h : PB W b A c p) => fail_any b A c p 5 W h)
  clear h k0 hA hn hn2 hn3 he hv KV
  rcases hc with hc | ⟨t, ht, hk⟩
  · have hni : decide (p.nx < p.L.length) = false := decide_eq_false (by omega)
    go_enter Tryz.func118, Tryz.ntmps118
    go_upto_region 1 with fail
    generalize (w.alloc (.cells #[.int .i64 0, .int .i64 0, .int .i64 0, .int .i64 0, .string ⟨#[]⟩, .int .i64 0, .string ⟨#[]⟩, .slice none 0 0] 33)) = w1 at *
    have hz1 := HS1.out
    have hbp := (h1).blk; have hlp := hbp.lt; have hllp := lts hlp; have qp0 := hbp.cell 0; have qp1 := hbp.cell 1; have qp2 := hbp.cell 2; have qp3 := hbp.cell 3; have qp4 := hbp.cell 4; have qp5 := hbp.cell 5; simp at qp0 qp1 qp2 qp3 qp4 qp5; have zp0 := hbp.frozen 0; have zp1 := hbp.frozen 1; have zp2 := hbp.frozen 2; have zp3 := hbp.frozen 3; have zp4 := hbp.frozen 4; have zp5 := hbp.frozen 5; have Hhbp := Lib.hid hbp; clear hbp
    rw [HE.out] at qp4
    clear h1
    go_wp2_with fail
    refine (KT0.out _ H1.out).mono ?_
    rintro e w2 ⟨rfl, h2, g2⟩
    have hz2 := g2.size
    have K2 := Lib.hid (K0.out.gr g2 (by omega))
    have G2 := Lib.hid (G1.out.trans g2)
    clear qp0 zp0 qp1 zp1 qp2 zp2 qp3 zp3 qp4 zp4 qp5 zp5 hlp hllp Hhbp
    go_wp2_with fail
    refine (KT1.out _ h2).mono ?_
    rintro e w3 ⟨rfl, h3, g3⟩
    have hz3 := g3.size
    have K3 := Lib.hid (K2.out.gr g3 (by omega))
    have G3 := Lib.hid (G2.out.trans g3)
    clear h2
    go_wp2_with fail
    refine (KT2.out _ h3).mono ?_
    rintro e w4 ⟨rfl, h4, g4⟩
    have hz4 := g4.size
    have K4 := Lib.hid (K3.out.gr g4 (by omega))
    have G4 := Lib.hid (G3.out.trans g4)
    clear h3
    clear g2 g3 g4 KT0 KT1 KT2
    go_wp2_with fail
    refine (KV2.out _ h4).mono ?_
    rintro e w5 ⟨rfl, h5, g5⟩
    have hz5 := g5.size
    have K5 := Lib.hid (K4.out.gr g5 (by omega))
    have G5 := Lib.hid (G4.out.trans g5)
    have HP5 := Lib.hid h5
    have kv : Blk (w5.alloc (.cells #[.int .i64 0, .int .i64 0, .int .i64 0, .string ⟨#[]⟩, .int .i64 0] 25)) w5.heap.size 25 #[.int .i64 0, .int .i64 0, .int .i64 0, .string ⟨#[]⟩, .int .i64 0] := Blk.new _ _ _
    clear h4 h5 g5 KV2
    go_upto_region 19 with (refine wpList_store_blk kv rfl _ _ _ (by rfl) _ (by rfl) (by rfl) (by (repeat (first | (with_reducible exact kv) | (with_reducible refine Blk.alloc ?_ _) | (with_reducible refine Blk.drew ?_) | (with_reducible refine Blk.far ?_ (by first | (simp; done) | (simp; omega)) _) | (with_reducible refine Blk.turn ?_ (by with_reducible assumption) (by omega))))) (by rfl) (by kernel_rfl) (by simp [Value.oneCell']) ?_; intro wt kvn ht)
    have hb6 : Below w5.heap.size w5 wt := bturn (balloc (Below.refl _ _) _) ht (Nat.le_refl _)
    have K6 := Lib.hid (K5.out.step hb6)
    have hz6 : w5.heap.size < wt.heap.size := kvn.lt
    have h6 := HP5.out.step hb6
    have H6 := Lib.hid h6
    have G6 := Lib.hid (G5.out.bstep hb6)
    clear kv kvn HP5 G5 hb6 ht
    have hbr := (h6).blk; have hlr := hbr.lt; have hllr := lts hlr; have qr0 := hbr.cell 0; have qr1 := hbr.cell 1; have qr2 := hbr.cell 2; have qr3 := hbr.cell 3; have qr4 := hbr.cell 4; have qr5 := hbr.cell 5; simp at qr0 qr1 qr2 qr3 qr4 qr5; have zr0 := hbr.frozen 0; have zr1 := hbr.frozen 1; have zr2 := hbr.frozen 2; have zr3 := hbr.frozen 3; have zr4 := hbr.frozen 4; have zr5 := hbr.frozen 5; have Hhbr := Lib.hid hbr; clear hbr
    rw [HE.out] at qr4
    clear h6
    go_cut [99] (fun z wx => z = .bool false ∧ Below wt.heap.size wt wx)
    case first =>
      go_quiet (fail)
      go_wp2_with fail
      go_meet
      case rel => exact ⟨rfl, by (repeat' (first | (with_reducible refine bdrewN ?_ _) | (with_reducible exact Below.refl _ _) | (with_reducible assumption) | (with_reducible refine balloc ?_ _) | (with_reducible refine Below.drew ?_) | (with_reducible refine bset ?_ ?_ _) | (with_reducible refine bstep ?_ (by with_reducible assumption)) | (with_reducible refine bturn ?_ (by with_reducible assumption) ?_) | go_size))⟩
    case rest =>
      obtain ⟨rfl, hb7⟩ := hcut
      clear qr0 zr0 qr1 zr1 qr2 zr2 qr3 zr3 qr4 zr4 qr5 zr5 hlr hllr Hhbr
      go_upto_region 24 with fail
      have H7 := Lib.hid (H6.out.step hb7)
      have K7 := Lib.hid (K6.out.step hb7)
      have G7 := Lib.hid (G6.out.bstep hb7)
      have hz7 := hb7.size
      clear H6 K6 G6 hb7
      go_wp2_with fail
      refine (KF.out _ H7.out).mono ?_
      rintro e w8 ⟨rfl, h8, g8⟩
      have k8 := K7.out.gr g8 (by omega)
      have H8 := Lib.hid h8
      have G8 := Lib.hid (G7.out.trans g8)
      clear h8 g8
      go_wp2_with (refine wpList_store_blk k8 rfl _ _ _ (by rfl) _ (by rfl) (by rfl) (by (repeat (first | (with_reducible exact k8) | (with_reducible refine Blk.alloc ?_ _) | (with_reducible refine Blk.drew ?_) | (with_reducible refine Blk.far ?_ (by first | (simp; done) | (simp; omega)) _) | (with_reducible refine Blk.turn ?_ (by with_reducible assumption) (by omega))))) (by rfl) (by kernel_rfl) (by simp [Value.oneCell']) ?_; intro wt k8n ht)
      refine ret_blk rfl k8n rfl Tryz.underlying33 rfl (by kernel_rfl) rfl ?_
      exact ⟨⟨_, rfl, zero_xm⟩, H.out.turnF (fail_L _ _).symm H8.out ht (Nat.le_refl _), Gr.turnFar G8.out ht (Nat.le_refl _)⟩
  · have HT := Lib.hid ht
    have hnl : p.nx < p.L.length := (List.getElem?_eq_some_iff.1 ht).1
    have hni : (p.nx : Int) < (p.L.length : Int) := by omega
    have hnd : decide (p.nx < p.L.length) = true := decide_eq_true hnl
    have hkd : decide (t.k = 4) = false := decide_eq_false hk
    have hkb : (t.k == 4) = false := by simpa using hk
    obtain ⟨tk, hkk⟩ : ∃ z, t.k = z := ⟨_, rfl⟩
    rw [hkk] at hkb hkd
    have HKK := Lib.hid hkk
    clear ht hk hkk
    go_enter Tryz.func118, Tryz.ntmps118
    go_upto_region 1 with fail
    generalize (w.alloc (.cells #[.int .i64 0, .int .i64 0, .int .i64 0, .int .i64 0, .string ⟨#[]⟩, .int .i64 0, .string ⟨#[]⟩, .slice none 0 0] 33)) = w1 at *
    have hz1 := HS1.out
    have hbp := (h1).blk; have hlp := hbp.lt; have hllp := lts hlp; have qp0 := hbp.cell 0; have qp1 := hbp.cell 1; have qp2 := hbp.cell 2; have qp3 := hbp.cell 3; have qp4 := hbp.cell 4; have qp5 := hbp.cell 5; simp at qp0 qp1 qp2 qp3 qp4 qp5; have zp0 := hbp.frozen 0; have zp1 := hbp.frozen 1; have zp2 := hbp.frozen 2; have zp3 := hbp.frozen 3; have zp4 := hbp.frozen 4; have zp5 := hbp.frozen 5; have Hhbp := Lib.hid hbp; clear hbp
    rw [HE.out] at qp4
    clear h1
    go_wp2_with fail
    refine (KT0.out _ H1.out).mono ?_
    rintro e w2 ⟨rfl, h2, g2⟩
    have hz2 := g2.size
    have K2 := Lib.hid (K0.out.gr g2 (by omega))
    have G2 := Lib.hid (G1.out.trans g2)
    clear qp0 zp0 qp1 zp1 qp2 zp2 qp3 zp3 qp4 zp4 qp5 zp5 hlp hllp Hhbp
    go_wp2_with fail
    refine (KT1.out _ h2).mono ?_
    rintro e w3 ⟨rfl, h3, g3⟩
    have hz3 := g3.size
    have K3 := Lib.hid (K2.out.gr g3 (by omega))
    have G3 := Lib.hid (G2.out.trans g3)
    clear h2
    go_wp2_with fail
    refine (KT2.out _ h3).mono ?_
    rintro e w4 ⟨rfl, h4, g4⟩
    have hz4 := g4.size
    have K4 := Lib.hid (K3.out.gr g4 (by omega))
    have G4 := Lib.hid (G3.out.trans g4)
    clear h3
    clear g2 g3 g4 KT0 KT1 KT2
    go_wp2_with fail
    refine (KV2.out _ h4).mono ?_
    rintro e w5 ⟨rfl, h5, g5⟩
    have hz5 := g5.size
    have K5 := Lib.hid (K4.out.gr g5 (by omega))
    have G5 := Lib.hid (G4.out.trans g5)
    have HP5 := Lib.hid h5
    have kv : Blk (w5.alloc (.cells #[.int .i64 0, .int .i64 0, .int .i64 0, .string ⟨#[]⟩, .int .i64 0] 25)) w5.heap.size 25 #[.int .i64 0, .int .i64 0, .int .i64 0, .string ⟨#[]⟩, .int .i64 0] := Blk.new _ _ _
    clear h4 h5 g5 KV2
    go_upto_region 19 with (refine wpList_store_blk kv rfl _ _ _ (by rfl) _ (by rfl) (by rfl) (by (repeat (first | (with_reducible exact kv) | (with_reducible refine Blk.alloc ?_ _) | (with_reducible refine Blk.drew ?_) | (with_reducible refine Blk.far ?_ (by first | (simp; done) | (simp; omega)) _) | (with_reducible refine Blk.turn ?_ (by with_reducible assumption) (by omega))))) (by rfl) (by kernel_rfl) (by simp [Value.oneCell']) ?_; intro wt kvn ht)
    have hb6 : Below w5.heap.size w5 wt := bturn (balloc (Below.refl _ _) _) ht (Nat.le_refl _)
    have K6 := Lib.hid (K5.out.step hb6)
    have hz6 : w5.heap.size < wt.heap.size := kvn.lt
    have h6 := HP5.out.step hb6
    have H6 := Lib.hid h6
    have G6 := Lib.hid (G5.out.bstep hb6)
    clear kv kvn HP5 G5 hb6 ht
    obtain ⟨g, f, rfl, c0, c1, c2, c3, c4, c5⟩ := tm_get h6.tm HT.out
    rw [HKK.out] at c0
    clear c1 c2 c3 c4 c5
    have hbr := (h6).blk; have hlr := hbr.lt; have hllr := lts hlr; have qr0 := hbr.cell 0; have qr1 := hbr.cell 1; have qr2 := hbr.cell 2; have qr3 := hbr.cell 3; have qr4 := hbr.cell 4; have qr5 := hbr.cell 5; simp at qr0 qr1 qr2 qr3 qr4 qr5; have zr0 := hbr.frozen 0; have zr1 := hbr.frozen 1; have zr2 := hbr.frozen 2; have zr3 := hbr.frozen 3; have zr4 := hbr.frozen 4; have zr5 := hbr.frozen 5; have Hhbr := Lib.hid hbr; clear hbr
    rw [HE.out] at qr4
    clear h6
    go_cut [99] (fun z wx => z = .bool false ∧ Below wt.heap.size wt wx)
    case first =>
      go_quiet (fail)
      go_wp2_with fail
      go_meet
      case rel => exact ⟨rfl, by (repeat' (first | (with_reducible refine bdrewN ?_ _) | (with_reducible exact Below.refl _ _) | (with_reducible assumption) | (with_reducible refine balloc ?_ _) | (with_reducible refine Below.drew ?_) | (with_reducible refine bset ?_ ?_ _) | (with_reducible refine bstep ?_ (by with_reducible assumption)) | (with_reducible refine bturn ?_ (by with_reducible assumption) ?_) | go_size))⟩
    case rest =>
      obtain ⟨rfl, hb7⟩ := hcut
      clear qr0 zr0 qr1 zr1 qr2 zr2 qr3 zr3 qr4 zr4 qr5 zr5 hlr hllr Hhbr
      clear c0
      go_upto_region 24 with fail
      have H7 := Lib.hid (H6.out.step hb7)
      have K7 := Lib.hid (K6.out.step hb7)
      have G7 := Lib.hid (G6.out.bstep hb7)
      have hz7 := hb7.size
      clear H6 K6 G6 hb7
      go_wp2_with fail
      refine (KF.out _ H7.out).mono ?_
      rintro e w8 ⟨rfl, h8, g8⟩
      have k8 := K7.out.gr g8 (by omega)
      have H8 := Lib.hid h8
      have G8 := Lib.hid (G7.out.trans g8)
      clear h8 g8
      go_wp2_with (refine wpList_store_blk k8 rfl _ _ _ (by rfl) _ (by rfl) (by rfl) (by (repeat (first | (with_reducible exact k8) | (with_reducible refine Blk.alloc ?_ _) | (with_reducible refine Blk.drew ?_) | (with_reducible refine Blk.far ?_ (by first | (simp; done) | (simp; omega)) _) | (with_reducible refine Blk.turn ?_ (by with_reducible assumption) (by omega))))) (by rfl) (by kernel_rfl) (by simp [Value.oneCell']) ?_; intro wt k8n ht)
      refine ret_blk rfl k8n rfl Tryz.underlying33 rfl (by kernel_rfl) rfl ?_
      exact ⟨⟨_, rfl, zero_xm⟩, H.out.turnF (fail_L _ _).symm H8.out ht (Nat.le_refl _), Gr.turnFar G8.out ht (Nat.le_refl _)⟩
end Go.Proofs.YtkkeplmaphcblaaGreatDoor

namespace Go.Proofs.YtkkeplmaphcblaaGreatDoor
open Go.RowKit
attribute [local go_sem high] run_vl_eql run_vl_neq

def vEq (v u : Vl) : Bool := v.k == u.k && (v.n == u.n && (v.s == u.s && (v.t == u.t && v.m == u.m)))
mutual
/-- Are two expressions one? -/
def eqE : Ex → Ex → Bool
  | .mk o v s K, .mk o' v' s' K' => (o == o' && (s == s' && (vEq v v' && K.length == K'.length))) && eqL K K'
def eqL : List Ex → List Ex → Bool
  | [], _ => true
  | _ :: _, [] => true
  | a :: r, b :: t => if eqE a b = true then eqL r t else false
end
theorem vEq_iff {v u : Vl} : vEq v u = true ↔ v = u := by
  obtain ⟨a, b, c, d, e⟩ := v
  obtain ⟨a', b', c', d', e'⟩ := u
  simp [vEq]
theorem eqE_iff : ∀ x y, eqE x y = true ↔ x = y := by
  intro x
  induction x using ex_ind with
  | h o v s K ih =>
    intro y
    obtain ⟨o', v', s', K'⟩ := y
    have hL : ∀ (K : List Ex), (∀ k ∈ K, ∀ y, eqE k y = true ↔ k = y) → ∀ K' : List Ex, K.length = K'.length → (eqL K K' = true ↔ K = K') := by
      intro K
      induction K with
      | nil => intro _ K' h; cases K' with | nil => simp [eqL] | cons a r => simp at h
      | cons a r ihK =>
        intro hK K' h
        cases K' with
        | nil => simp at h
        | cons b t =>
          rw [eqL]
          have h1 := hK a (by simp) b
          have h2 := ihK (fun k hk => hK k (by simp [hk])) t (by simpa using h)
          by_cases hab : eqE a b = true
          · rw [if_pos hab, h2]
            have := h1.1 hab
            simp [this]
          · rw [if_neg hab]
            have : ¬ a = b := fun e => hab (h1.2 e)
            simp [this]
    rw [eqE]
    simp only [Bool.and_eq_true, beq_iff_eq, vEq_iff, Ex.mk.injEq]
    constructor
    · rintro ⟨⟨h1, h2, h3, h4⟩, h5⟩
      exact ⟨h1, h3, h2, (hL K ih K' h4).1 h5⟩
    · rintro ⟨h1, h2, h3, h4⟩
      subst h4
      exact ⟨⟨h1, h3, h2, rfl⟩, (hL K ih K rfl).2 rfl⟩
theorem eqL_at {L M : List Ex} {k : Nat} {x y : Ex} (hx : L[k]? = some x) (hy : M[k]? = some y) : eqL (L.drop k) (M.drop k) = if eqE x y = true then eqL (L.drop (k + 1)) (M.drop (k + 1)) else false := by
  obtain ⟨hk, rfl⟩ := List.getElem?_eq_some_iff.1 hx
  obtain ⟨hm, rfl⟩ := List.getElem?_eq_some_iff.1 hy
  rw [List.drop_eq_getElem_cons hk, List.drop_eq_getElem_cons hm, eqL]
theorem vlq_eq (v u : Vl) : vlq v.k v.n v.s (bs v.t) v.m u.k u.n u.s (bs u.t) u.m = vEq v u := by
  have h : vlq v.k v.n v.s (bs v.t) v.m u.k u.n u.s (bs u.t) u.m = true ↔ vEq v u = true := by
    rw [vlq_iff, bs_toList, bs_toList, vEq_iff]
    obtain ⟨a, b, c, d, e⟩ := v
    obtain ⟨a', b', c', d', e'⟩ := u
    simp
  cases h1 : vEq v u with
  | true => exact h.2 h1
  | false =>
    cases h2 : vlq v.k v.n v.s (bs v.t) v.m u.k u.n u.s (bs u.t) u.m with
    | false => rfl
    | true => rw [h.1 h2] at h1; cases h1
def RSameC (w0 : World) (x : Ex) : Prop := ∀ (y : Ex) (cs ds : Array Value) (w : World), XM (fun _ => True) w0 x cs → XM (fun _ => True) w0 y ds → Below w0.heap.size w0 w →
  Calls Tryz.prog 31 #[.agg cs, .agg ds] w fun e w' => e = .returned (.bool (eqE x y)) ∧ Below w.heap.size w w'
set_option maxHeartbeats 8000000 in
set_option maxRecDepth 100000 in
theorem rsame_node (o vk vn vs vm : Int) (q r : ByteArray) (A : Option Addr) (c : Nat) (L : List Ex) (o' vk' vn' vs' vm' : Int) (q' r' : ByteArray) (A' : Option Addr) (c' : Nat) (M : List Ex) (w0 w : World) (hk : KD w0 A L) (hk' : KD w0 A' M) (hb : Below w0.heap.size w0 w)
    (e1 e2 e3 e4 : Bool) (he1 : (o == o') = e1) (he2 : (r.toList == r'.toList) = e2) (he3 : vlq vk vn vs q vm vk' vn' vs' q' vm' = e3) (he4 : (L.length == M.length) = e4) (hK : ∀ k ∈ L, RSameC w0 k) :
    Calls Tryz.prog 31 #[.agg #[.int .i64 o, .int .i64 vk, .int .i64 vn, .int .i64 vs, .string q, .int .i64 vm, .string r, .slice A L.length c], .agg #[.int .i64 o', .int .i64 vk', .int .i64 vn', .int .i64 vs', .string q', .int .i64 vm', .string r', .slice A' M.length c']] w fun e w' => e = .returned (.bool ((e1 && (e2 && (e3 && e4))) && eqL L M)) ∧ Below w.heap.size w w' := by
  have HK := Lib.hid hk
  have HK' := Lib.hid hk'
  have HKK := Lib.hid hK
  have HB := Lib.hid hb
  have hn := hk.n
  have k0 : Blk ((w.alloc (.cells #[.int .i64 o, .int .i64 vk, .int .i64 vn, .int .i64 vs, .string q, .int .i64 vm, .string r, .slice A L.length c] 33)).alloc (.cells #[.int .i64 o', .int .i64 vk', .int .i64 vn', .int .i64 vs', .string q', .int .i64 vm', .string r', .slice A' M.length c'] 33)) w.heap.size 33 #[.int .i64 o, .int .i64 vk, .int .i64 vn, .int .i64 vs, .string q, .int .i64 vm, .string r, .slice A L.length c] := (Blk.new _ _ _).alloc _
  have k0' : Blk ((w.alloc (.cells #[.int .i64 o, .int .i64 vk, .int .i64 vn, .int .i64 vs, .string q, .int .i64 vm, .string r, .slice A L.length c] 33)).alloc (.cells #[.int .i64 o', .int .i64 vk', .int .i64 vn', .int .i64 vs', .string q', .int .i64 vm', .string r', .slice A' M.length c'] 33)) (w.heap.size + 1) 33 #[.int .i64 o', .int .i64 vk', .int .i64 vn', .int .i64 vs', .string q', .int .i64 vm', .string r', .slice A' M.length c'] := Blk.new' _ _ _ (by simp)
  have he1n : (o != o') = !e1 := by rw [← he1]; rfl
  have he4i : (((L.length : Nat) : Int) != ((M.length : Nat) : Int)) = !e4 := by
    cases e4 with
    | true =>
      have h : L.length = M.length := by simpa using he4
      have h2 : (L.length : Int) = (M.length : Int) := by omega
      simpa using h2
    | false =>
      have h : ¬ L.length = M.length := by simpa using he4
      have h2 : ¬ (L.length : Int) = (M.length : Int) := by omega
      simpa using h2
  obtain ⟨R, hR⟩ : ∃ R, eqL L M = R := ⟨_, rfl⟩
  have HR : Hid (eqL (L.drop 0) (M.drop 0) = R) := Lib.hid hR
  have HLM : Hid (e4 = true → L.length = M.length) := Lib.hid fun h => by rw [h] at he4; simpa using he4
  rw [hR]
  clear hk hk' hK hb hR he1 he4
  cases e1 with
  | false =>
    rw [Bool.not_false] at he1n
    clear k0 k0'
    go_enter Tryz.func31, Tryz.ntmps31
    go_wp2_with fail
    go_returns
    exact ⟨rfl, by (repeat' (first | (with_reducible exact Below.refl _ _) | (with_reducible assumption) | (with_reducible refine balloc ?_ _) | (with_reducible refine Below.drew ?_) | (with_reducible refine bset ?_ ?_ _) | (with_reducible refine bstep ?_ (by with_reducible assumption)) | (with_reducible refine bturn ?_ (by with_reducible assumption) ?_) | go_size))⟩
  | true =>
    rw [Bool.not_true] at he1n
    cases e2 with
    | false =>
      clear k0 k0'
      go_enter Tryz.func31, Tryz.ntmps31
      go_wp2_with fail
      go_returns
      exact ⟨rfl, by (repeat' (first | (with_reducible exact Below.refl _ _) | (with_reducible assumption) | (with_reducible refine balloc ?_ _) | (with_reducible refine Below.drew ?_) | (with_reducible refine bset ?_ ?_ _) | (with_reducible refine bstep ?_ (by with_reducible assumption)) | (with_reducible refine bturn ?_ (by with_reducible assumption) ?_) | go_size))⟩
    | true =>
      cases e3 with
      | false =>
        clear k0 k0'
        go_enter Tryz.func31, Tryz.ntmps31
        go_wp2_with fail
        go_returns
        exact ⟨rfl, by (repeat' (first | (with_reducible exact Below.refl _ _) | (with_reducible assumption) | (with_reducible refine balloc ?_ _) | (with_reducible refine Below.drew ?_) | (with_reducible refine bset ?_ ?_ _) | (with_reducible refine bstep ?_ (by with_reducible assumption)) | (with_reducible refine bturn ?_ (by with_reducible assumption) ?_) | go_size))⟩
      | true =>
        cases e4 with
        | false =>
          rw [Bool.not_false] at he4i
          clear k0 k0'
          go_enter Tryz.func31, Tryz.ntmps31
          go_wp2_with fail
          go_returns
          exact ⟨rfl, by (repeat' (first | (with_reducible exact Below.refl _ _) | (with_reducible assumption) | (with_reducible refine balloc ?_ _) | (with_reducible refine Below.drew ?_) | (with_reducible refine bset ?_ ?_ _) | (with_reducible refine bstep ?_ (by with_reducible assumption)) | (with_reducible refine bturn ?_ (by with_reducible assumption) ?_) | go_size))⟩
        | true =>
          rw [Bool.not_true] at he4i
          go_enter Tryz.func31, Tryz.ntmps31
          go_wp2_with fail
          go_loopw [5] (fun i wr => ∃ k : Nat, k ≤ L.length ∧ i = .int .i64 (k : Int) ∧ Below w.heap.size w wr ∧ Blk wr w.heap.size 33 #[.int .i64 o, .int .i64 vk, .int .i64 vn, .int .i64 vs, .string q, .int .i64 vm, .string r, .slice A L.length c] ∧ Blk wr (w.heap.size + 1) 33 #[.int .i64 o', .int .i64 vk', .int .i64 vn', .int .i64 vs', .string q', .int .i64 vm', .string r', .slice A' M.length c'] ∧ Hid (eqL (L.drop k) (M.drop k) = R)) (fun i _ => L.length - (intOf i).toNat)
          case atStart => exact ⟨0, by omega, rfl, by (repeat' (first | (with_reducible exact Below.refl _ _) | (with_reducible assumption) | (with_reducible refine balloc ?_ _) | (with_reducible refine Below.drew ?_) | (with_reducible refine bset ?_ ?_ _) | (with_reducible refine bstep ?_ (by with_reducible assumption)) | (with_reducible refine bturn ?_ (by with_reducible assumption) ?_) | go_size)), k0, k0', HR⟩
          case round =>
            obtain ⟨k, hkk, rfl, hb, kx, ky, HQ⟩ := hrel
            have hb0 : Below w0.heap.size w0 wr := HB.out.trans (hb.mono (by have := HB.out.size; omega))
            have KX := Lib.hid kx
            have KY := Lib.hid ky
            clear k0 k0'
            by_cases hlt : k < L.length
            · have hlM : k < M.length := by have := HLM.out (by simp); omega
              obtain ⟨x, hx⟩ : ∃ x, L[k]? = some x := ⟨L[k], List.getElem?_eq_getElem hlt⟩
              obtain ⟨y, hy⟩ : ∃ y, M[k]? = some y := ⟨M[k], List.getElem?_eq_getElem hlM⟩
              have hki : (k : Int) < (L.length : Int) := by omega
              have hki2 : (k : Int) < (M.length : Int) := by omega
              have hkn : IntKind.i64.wrap ((k : Int) + 1) = ((k + 1 : Nat) : Int) := by rw [IntWalk.i64_in _ (by omega)]; omega
              obtain ⟨g, off, ko, kk', kn, ks, kq, km, kr, kB, kl, kc, rfl, hxm, q0, q1, q2, q3, q4, q5, q6, q7⟩ := HK.out.get k x hx
              obtain ⟨g2, off2, jo, jk', jn, js, jq, jm, jr, jB, jl, jc, rfl, hym, p0, p1, p2, p3, p4, p5, p6, p7⟩ := HK'.out.get k y hy
              replace q0 := keep1 hb0 q0
              replace q1 := keep1 hb0 q1
              replace q2 := keep1 hb0 q2
              replace q3 := keep1 hb0 q3
              replace q4 := keep1 hb0 q4
              replace q5 := keep1 hb0 q5
              replace q6 := keep1 hb0 q6
              replace q7 := keep1 hb0 q7
              replace p0 := keep1 hb0 p0
              replace p1 := keep1 hb0 p1
              replace p2 := keep1 hb0 p2
              replace p3 := keep1 hb0 p3
              replace p4 := keep1 hb0 p4
              replace p5 := keep1 hb0 p5
              replace p6 := keep1 hb0 p6
              replace p7 := keep1 hb0 p7
              have KC : Hid (∀ n, Calls Tryz.prog 31 #[.agg #[.int .i64 ko, .int .i64 kk', .int .i64 kn, .int .i64 ks, .string kq, .int .i64 km, .string kr, .slice kB kl kc], .agg #[.int .i64 jo, .int .i64 jk', .int .i64 jn, .int .i64 js, .string jq, .int .i64 jm, .string jr, .slice jB jl jc]] (wr.drewN n) fun e w' => e = .returned (.bool (eqE x y)) ∧ Below wr.heap.size wr w') := Lib.hid fun n =>
                (HKK.out x (List.mem_of_getElem? hx) y _ _ (wr.drewN n) hxm hym (bdrewN hb0 n)).mono fun e w' ⟨h1, h2⟩ => ⟨h1, ⟨h2.os, h2.tape, h2.output, h2.size, h2.block⟩⟩
              have hq := HQ.out
              rw [eqL_at hx hy] at hq
              obtain ⟨b, hbb⟩ : ∃ b, eqE x y = b := ⟨_, rfl⟩
              rw [hbb] at KC hq
              have HQ2 := Lib.hid hq
              clear hx hy hxm hym hq hbb HQ
              have hlx := kx.lt; have hllx := lts hlx; have qx0 := kx.cell 0; have qx1 := kx.cell 1; have qx2 := kx.cell 2; have qx3 := kx.cell 3; have qx4 := kx.cell 4; have qx5 := kx.cell 5; have qx6 := kx.cell 6; have qx7 := kx.cell 7; simp at qx0 qx1 qx2 qx3 qx4 qx5 qx6 qx7; have zx0 := kx.frozen 0; have zx1 := kx.frozen 1; have zx2 := kx.frozen 2; have zx3 := kx.frozen 3; have zx4 := kx.frozen 4; have zx5 := kx.frozen 5; have zx6 := kx.frozen 6; have zx7 := kx.frozen 7; have Hkx := Lib.hid kx; clear kx
              have hly := ky.lt; have hlly := lts hly; have qy0 := ky.cell 0; have qy1 := ky.cell 1; have qy2 := ky.cell 2; have qy3 := ky.cell 3; have qy4 := ky.cell 4; have qy5 := ky.cell 5; have qy6 := ky.cell 6; have qy7 := ky.cell 7; simp at qy0 qy1 qy2 qy3 qy4 qy5 qy6 qy7; have zy0 := ky.frozen 0; have zy1 := ky.frozen 1; have zy2 := ky.frozen 2; have zy3 := ky.frozen 3; have zy4 := ky.frozen 4; have zy5 := ky.frozen 5; have zy6 := ky.frozen 6; have zy7 := ky.frozen 7; have Hky := Lib.hid ky; clear ky
              go_upto_region 6 with fail
              go_cut [52] (fun z wx => z = .bool (!b) ∧ Below wr.heap.size wr wx)
              case first =>
                go_region_held3 (fun w' => (w'.cell? ⟨w.heap.size, 7, none⟩ = some (.slice (some ⟨g, off, none⟩) L.length c)) ∧ (w'.cell? ⟨w.heap.size + 1, 7, none⟩ = some (.slice (some ⟨g2, off2, none⟩) M.length c')) ∧ (w'.cell? ⟨g, off + k * 8, none⟩ = some (.int .i64 ko)) ∧ (w'.cell? ⟨g, off + k * 8 + 1, none⟩ = some (.int .i64 kk')) ∧ (w'.cell? ⟨g, off + k * 8 + 2, none⟩ = some (.int .i64 kn)) ∧ (w'.cell? ⟨g, off + k * 8 + 3, none⟩ = some (.int .i64 ks)) ∧ (w'.cell? ⟨g, off + k * 8 + 4, none⟩ = some (.string kq)) ∧ (w'.cell? ⟨g, off + k * 8 + 5, none⟩ = some (.int .i64 km)) ∧ (w'.cell? ⟨g, off + k * 8 + 6, none⟩ = some (.string kr)) ∧ (w'.cell? ⟨g, off + k * 8 + 7, none⟩ = some (.slice kB kl kc)) ∧ (w'.cell? ⟨g2, off2 + k * 8, none⟩ = some (.int .i64 jo)) ∧ (w'.cell? ⟨g2, off2 + k * 8 + 1, none⟩ = some (.int .i64 jk')) ∧ (w'.cell? ⟨g2, off2 + k * 8 + 2, none⟩ = some (.int .i64 jn)) ∧ (w'.cell? ⟨g2, off2 + k * 8 + 3, none⟩ = some (.int .i64 js)) ∧ (w'.cell? ⟨g2, off2 + k * 8 + 4, none⟩ = some (.string jq)) ∧ (w'.cell? ⟨g2, off2 + k * 8 + 5, none⟩ = some (.int .i64 jm)) ∧ (w'.cell? ⟨g2, off2 + k * 8 + 6, none⟩ = some (.string jr)) ∧ (w'.cell? ⟨g2, off2 + k * 8 + 7, none⟩ = some (.slice jB jl jc))) ((first | (simp [*]; done) | (go_split_ands; (repeat' apply And.intro) <;> first | assumption | exact keep1 (by assumption) (by assumption) | (simp [go_sem]; done) | (repeat (first | (with_reducible assumption) | (with_reducible refine keepd ?_) | (with_reducible refine keepa2 ?_)))))) ((go_at_call 31; refine (KC.out _).mono ?_; rintro e wq ⟨rfl, hbq⟩; obtain ⟨hcq, hfq⟩ := bcell hbq; have hzq := hbq.size))
                go_wp2_with fail
                go_meet
                case rel => exact ⟨rfl, by (repeat' (first | (with_reducible refine bdrewN ?_ _) | (with_reducible exact Below.refl _ _) | (with_reducible assumption) | (with_reducible refine balloc ?_ _) | (with_reducible refine Below.drew ?_) | (with_reducible refine bset ?_ ?_ _) | (with_reducible refine bstep ?_ (by with_reducible assumption)) | (with_reducible refine bturn ?_ (by with_reducible assumption) ?_) | go_size))⟩
              case rest =>
                obtain ⟨rfl, hb2⟩ := hcut
                rename World => w2
                clear q0 q1 q2 q3 q4 q5 q6 q7 p0 p1 p2 p3 p4 p5 p6 p7 qx0 qx1 qx2 qx3 qx4 qx5 qx6 qx7 zx0 zx1 zx2 zx3 zx4 zx5 zx6 zx7 hlx hllx qy0 qy1 qy2 qy3 qy4 qy5 qy6 qy7 zy0 zy1 zy2 zy3 zy4 zy5 zy6 zy7 hly hlly
                cases b with
                | false =>
                  rw [show (!false) = true from rfl]
                  go_wp2_with fail
                  go_returns
                  exact ⟨by rw [← HQ2.out]; simp, by (repeat' (first | (with_reducible exact Below.refl _ _) | (with_reducible assumption) | (with_reducible refine balloc ?_ _) | (with_reducible refine Below.drew ?_) | (with_reducible refine bset ?_ ?_ _) | (with_reducible refine bstep ?_ (by with_reducible assumption)) | (with_reducible refine bturn ?_ (by with_reducible assumption) ?_) | go_size))⟩
                | true =>
                  rw [show (!true) = false from rfl]
                  have hq := HQ2.out
                  rw [if_pos rfl] at hq
                  have HQ3 := Lib.hid hq
                  clear hq HQ2
                  go_wp2_with fail
                  go_roundw
                  case rel => exact ⟨k + 1, by omega, by go_num, by (repeat' (first | (with_reducible exact Below.refl _ _) | (with_reducible assumption) | (with_reducible refine balloc ?_ _) | (with_reducible refine Below.drew ?_) | (with_reducible refine bset ?_ ?_ _) | (with_reducible refine bstep ?_ (by with_reducible assumption)) | (with_reducible refine bturn ?_ (by with_reducible assumption) ?_) | go_size)), KX.out.step hb2, KY.out.step hb2, HQ3⟩
                  case measure => simp [intOf]; omega
            · obtain rfl : k = L.length := by omega
              have hq := HQ.out
              rw [List.drop_length, eqL] at hq
              have HQ3 := Lib.hid hq
              clear hlt HQ hq
              have hlx := kx.lt; have hllx := lts hlx; have qx0 := kx.cell 0; have qx1 := kx.cell 1; have qx2 := kx.cell 2; have qx3 := kx.cell 3; have qx4 := kx.cell 4; have qx5 := kx.cell 5; have qx6 := kx.cell 6; have qx7 := kx.cell 7; simp at qx0 qx1 qx2 qx3 qx4 qx5 qx6 qx7; have zx0 := kx.frozen 0; have zx1 := kx.frozen 1; have zx2 := kx.frozen 2; have zx3 := kx.frozen 3; have zx4 := kx.frozen 4; have zx5 := kx.frozen 5; have zx6 := kx.frozen 6; have zx7 := kx.frozen 7; have Hkx := Lib.hid kx; clear kx
              go_wp2_with fail
              go_returns
              exact ⟨by rw [← HQ3.out]; rfl, hb⟩
theorem rsame_all (w0 : World) : ∀ x, RSameC w0 x := by
  intro x
  induction x using ex_ind with
  | h o v s kids ih =>
    intro y cs ds w hx hy hb
    obtain ⟨o', v', s', kids'⟩ := y
    obtain ⟨A, c, rfl, hk⟩ := hx.kd
    obtain ⟨A', c', rfl, hk'⟩ := hy.kd
    refine (rsame_node o v.k v.n v.s v.m (bs v.t) (bs s) A c kids o' v'.k v'.n v'.s v'.m (bs v'.t) (bs s') A' c' kids' w0 w hk hk' hb _ _ _ _ rfl rfl rfl rfl fun k hkm => ih k hkm).mono ?_
    rintro e w' ⟨rfl, h⟩
    refine ⟨?_, h⟩
    rw [eqE, vlq_eq, bs_toList, bs_toList]
end Go.Proofs.YtkkeplmaphcblaaGreatDoor

namespace Go.Proofs.YtkkeplmaphcblaaGreatDoor
open Go.RowKit

section
variable (n s m : Int) (q : ByteArray) (w : World)
set_option maxHeartbeats 8000000 in
set_option maxRecDepth 100000 in
theorem vt_0 (KS : Hid (∀ W, Below w.heap.size w W → Calls Tryz.prog 48 #[.agg #[.int .i64 0, .int .i64 n, .int .i64 s, .string q, .int .i64 m]] W fun e w' => e = .returned (.bool true) ∧ Below W.heap.size W w')) :
    Calls Tryz.prog 92 #[.agg #[.int .i64 0, .int .i64 n, .int .i64 s, .string q, .int .i64 m]] w fun e w' => e = .returned (.tuple #[.string ⟨#[110, 117, 108, 108]⟩, .int .i64 0]) ∧ Below w.heap.size w w' := by
  have k0 : Blk (w.alloc (.cells #[.int .i64 0, .int .i64 n, .int .i64 s, .string q, .int .i64 m] 25)) w.heap.size 25 #[.int .i64 0, .int .i64 n, .int .i64 s, .string q, .int .i64 m] := Blk.new _ _ _
  go_enter Tryz.func92, Tryz.ntmps92
  go_wp2_with fail
  refine (KS.out _ (by (repeat' (first | (with_reducible exact Below.refl _ _) | (with_reducible assumption) | (with_reducible refine balloc ?_ _) | (with_reducible refine Below.drew ?_) | (with_reducible refine bset ?_ ?_ _) | (with_reducible refine bstep ?_ (by with_reducible assumption)) | (with_reducible refine bturn ?_ (by with_reducible assumption) ?_) | go_size)))).mono ?_
  rintro e w1 ⟨rfl, hb1⟩
  have k1 := k0.step hb1
  have hb : Below w.heap.size w w1 := by (repeat' (first | (with_reducible exact Below.refl _ _) | (with_reducible assumption) | (with_reducible refine balloc ?_ _) | (with_reducible refine Below.drew ?_) | (with_reducible refine bset ?_ ?_ _) | (with_reducible refine bstep ?_ (by with_reducible assumption)) | (with_reducible refine bturn ?_ (by with_reducible assumption) ?_) | go_size))
  clear k0
  have hlu := k1.lt; have hllu := lts hlu; have qu0 := k1.cell 0; have qu1 := k1.cell 1; have qu2 := k1.cell 2; have qu3 := k1.cell 3; have qu4 := k1.cell 4; simp at qu0 qu1 qu2 qu3 qu4; have zu0 := k1.frozen 0; have zu1 := k1.frozen 1; have zu2 := k1.frozen 2; have zu3 := k1.frozen 3; have zu4 := k1.frozen 4; have Hk1 := Lib.hid k1; clear k1
  go_wp2_with fail
  go_returns
  exact ⟨rfl, by (repeat' (first | (with_reducible exact Below.refl _ _) | (with_reducible assumption) | (with_reducible refine balloc ?_ _) | (with_reducible refine Below.drew ?_) | (with_reducible refine bset ?_ ?_ _) | (with_reducible refine bstep ?_ (by with_reducible assumption)) | (with_reducible refine bturn ?_ (by with_reducible assumption) ?_) | go_size))⟩
set_option maxHeartbeats 8000000 in
set_option maxRecDepth 100000 in
theorem vt_3f (KS : Hid (∀ W, Below w.heap.size w W → Calls Tryz.prog 48 #[.agg #[.int .i64 3, .int .i64 n, .int .i64 s, .string q, .int .i64 0]] W fun e w' => e = .returned (.bool true) ∧ Below W.heap.size W w')) :
    Calls Tryz.prog 92 #[.agg #[.int .i64 3, .int .i64 n, .int .i64 s, .string q, .int .i64 0]] w fun e w' => e = .returned (.tuple #[.string ⟨#[102, 97, 108, 115, 101]⟩, .int .i64 0]) ∧ Below w.heap.size w w' := by
  have k0 : Blk (w.alloc (.cells #[.int .i64 3, .int .i64 n, .int .i64 s, .string q, .int .i64 0] 25)) w.heap.size 25 #[.int .i64 3, .int .i64 n, .int .i64 s, .string q, .int .i64 0] := Blk.new _ _ _
  go_enter Tryz.func92, Tryz.ntmps92
  go_wp2_with fail
  refine (KS.out _ (by (repeat' (first | (with_reducible exact Below.refl _ _) | (with_reducible assumption) | (with_reducible refine balloc ?_ _) | (with_reducible refine Below.drew ?_) | (with_reducible refine bset ?_ ?_ _) | (with_reducible refine bstep ?_ (by with_reducible assumption)) | (with_reducible refine bturn ?_ (by with_reducible assumption) ?_) | go_size)))).mono ?_
  rintro e w1 ⟨rfl, hb1⟩
  have k1 := k0.step hb1
  have hb : Below w.heap.size w w1 := by (repeat' (first | (with_reducible exact Below.refl _ _) | (with_reducible assumption) | (with_reducible refine balloc ?_ _) | (with_reducible refine Below.drew ?_) | (with_reducible refine bset ?_ ?_ _) | (with_reducible refine bstep ?_ (by with_reducible assumption)) | (with_reducible refine bturn ?_ (by with_reducible assumption) ?_) | go_size))
  clear k0
  have hlu := k1.lt; have hllu := lts hlu; have qu0 := k1.cell 0; have qu1 := k1.cell 1; have qu2 := k1.cell 2; have qu3 := k1.cell 3; have qu4 := k1.cell 4; simp at qu0 qu1 qu2 qu3 qu4; have zu0 := k1.frozen 0; have zu1 := k1.frozen 1; have zu2 := k1.frozen 2; have zu3 := k1.frozen 3; have zu4 := k1.frozen 4; have Hk1 := Lib.hid k1; clear k1
  go_wp2_with fail
  go_returns
  exact ⟨rfl, by (repeat' (first | (with_reducible exact Below.refl _ _) | (with_reducible assumption) | (with_reducible refine balloc ?_ _) | (with_reducible refine Below.drew ?_) | (with_reducible refine bset ?_ ?_ _) | (with_reducible refine bstep ?_ (by with_reducible assumption)) | (with_reducible refine bturn ?_ (by with_reducible assumption) ?_) | go_size))⟩
set_option maxHeartbeats 8000000 in
set_option maxRecDepth 100000 in
theorem vt_3t (KS : Hid (∀ W, Below w.heap.size w W → Calls Tryz.prog 48 #[.agg #[.int .i64 3, .int .i64 n, .int .i64 s, .string q, .int .i64 1]] W fun e w' => e = .returned (.bool true) ∧ Below W.heap.size W w')) :
    Calls Tryz.prog 92 #[.agg #[.int .i64 3, .int .i64 n, .int .i64 s, .string q, .int .i64 1]] w fun e w' => e = .returned (.tuple #[.string ⟨#[116, 114, 117, 101]⟩, .int .i64 0]) ∧ Below w.heap.size w w' := by
  have k0 : Blk (w.alloc (.cells #[.int .i64 3, .int .i64 n, .int .i64 s, .string q, .int .i64 1] 25)) w.heap.size 25 #[.int .i64 3, .int .i64 n, .int .i64 s, .string q, .int .i64 1] := Blk.new _ _ _
  go_enter Tryz.func92, Tryz.ntmps92
  go_wp2_with fail
  refine (KS.out _ (by (repeat' (first | (with_reducible exact Below.refl _ _) | (with_reducible assumption) | (with_reducible refine balloc ?_ _) | (with_reducible refine Below.drew ?_) | (with_reducible refine bset ?_ ?_ _) | (with_reducible refine bstep ?_ (by with_reducible assumption)) | (with_reducible refine bturn ?_ (by with_reducible assumption) ?_) | go_size)))).mono ?_
  rintro e w1 ⟨rfl, hb1⟩
  have k1 := k0.step hb1
  have hb : Below w.heap.size w w1 := by (repeat' (first | (with_reducible exact Below.refl _ _) | (with_reducible assumption) | (with_reducible refine balloc ?_ _) | (with_reducible refine Below.drew ?_) | (with_reducible refine bset ?_ ?_ _) | (with_reducible refine bstep ?_ (by with_reducible assumption)) | (with_reducible refine bturn ?_ (by with_reducible assumption) ?_) | go_size))
  clear k0
  have hlu := k1.lt; have hllu := lts hlu; have qu0 := k1.cell 0; have qu1 := k1.cell 1; have qu2 := k1.cell 2; have qu3 := k1.cell 3; have qu4 := k1.cell 4; simp at qu0 qu1 qu2 qu3 qu4; have zu0 := k1.frozen 0; have zu1 := k1.frozen 1; have zu2 := k1.frozen 2; have zu3 := k1.frozen 3; have zu4 := k1.frozen 4; have Hk1 := Lib.hid k1; clear k1
  go_wp2_with fail
  go_returns
  exact ⟨rfl, by (repeat' (first | (with_reducible exact Below.refl _ _) | (with_reducible assumption) | (with_reducible refine balloc ?_ _) | (with_reducible refine Below.drew ?_) | (with_reducible refine bset ?_ ?_ _) | (with_reducible refine bstep ?_ (by with_reducible assumption)) | (with_reducible refine bturn ?_ (by with_reducible assumption) ?_) | go_size))⟩
set_option maxHeartbeats 8000000 in
set_option maxRecDepth 100000 in
theorem vt_1 (o : ByteArray) (KS : Hid (∀ W, Below w.heap.size w W → Calls Tryz.prog 48 #[.agg #[.int .i64 1, .int .i64 n, .int .i64 s, .string q, .int .i64 m]] W fun e w' => e = .returned (.bool true) ∧ Below W.heap.size W w'))
    (KT : Hid (∀ W, Below w.heap.size w W → Calls Tryz.prog 139 #[.agg #[.int .i64 n, .int .i64 s]] W fun e w' => e = .returned (.tuple #[.string o, .int .i64 0]) ∧ Below W.heap.size W w')) :
    Calls Tryz.prog 92 #[.agg #[.int .i64 1, .int .i64 n, .int .i64 s, .string q, .int .i64 m]] w fun e w' => e = .returned (.tuple #[.string o, .int .i64 0]) ∧ Below w.heap.size w w' := by
  have k0 : Blk (w.alloc (.cells #[.int .i64 1, .int .i64 n, .int .i64 s, .string q, .int .i64 m] 25)) w.heap.size 25 #[.int .i64 1, .int .i64 n, .int .i64 s, .string q, .int .i64 m] := Blk.new _ _ _
  go_enter Tryz.func92, Tryz.ntmps92
  go_wp2_with fail
  refine (KS.out _ (by (repeat' (first | (with_reducible exact Below.refl _ _) | (with_reducible assumption) | (with_reducible refine balloc ?_ _) | (with_reducible refine Below.drew ?_) | (with_reducible refine bset ?_ ?_ _) | (with_reducible refine bstep ?_ (by with_reducible assumption)) | (with_reducible refine bturn ?_ (by with_reducible assumption) ?_) | go_size)))).mono ?_
  rintro e w1 ⟨rfl, hb1⟩
  have k1 := k0.step hb1
  have hb : Below w.heap.size w w1 := by (repeat' (first | (with_reducible exact Below.refl _ _) | (with_reducible assumption) | (with_reducible refine balloc ?_ _) | (with_reducible refine Below.drew ?_) | (with_reducible refine bset ?_ ?_ _) | (with_reducible refine bstep ?_ (by with_reducible assumption)) | (with_reducible refine bturn ?_ (by with_reducible assumption) ?_) | go_size))
  clear k0
  have hlu := k1.lt; have hllu := lts hlu; have qu0 := k1.cell 0; have qu1 := k1.cell 1; have qu2 := k1.cell 2; have qu3 := k1.cell 3; have qu4 := k1.cell 4; simp at qu0 qu1 qu2 qu3 qu4; have zu0 := k1.frozen 0; have zu1 := k1.frozen 1; have zu2 := k1.frozen 2; have zu3 := k1.frozen 3; have zu4 := k1.frozen 4; have Hk1 := Lib.hid k1; clear k1
  go_wp2_with fail
  refine (KT.out _ (by (repeat' (first | (with_reducible exact Below.refl _ _) | (with_reducible assumption) | (with_reducible refine balloc ?_ _) | (with_reducible refine Below.drew ?_) | (with_reducible refine bset ?_ ?_ _) | (with_reducible refine bstep ?_ (by with_reducible assumption)) | (with_reducible refine bturn ?_ (by with_reducible assumption) ?_) | go_size)))).mono ?_
  rintro e w2 ⟨rfl, hb2⟩
  go_wp2_with fail
  go_returns
  exact ⟨rfl, by (repeat' (first | (with_reducible exact Below.refl _ _) | (with_reducible assumption) | (with_reducible refine balloc ?_ _) | (with_reducible refine Below.drew ?_) | (with_reducible refine bset ?_ ?_ _) | (with_reducible refine bstep ?_ (by with_reducible assumption)) | (with_reducible refine bturn ?_ (by with_reducible assumption) ?_) | go_size))⟩
set_option maxHeartbeats 8000000 in
set_option maxRecDepth 100000 in
theorem vt_4 (o : ByteArray) (ho : o.size ≤ 1000) (KS : Hid (∀ W, Below w.heap.size w W → Calls Tryz.prog 48 #[.agg #[.int .i64 4, .int .i64 n, .int .i64 s, .string q, .int .i64 m]] W fun e w' => e = .returned (.bool true) ∧ Below W.heap.size W w'))
    (KT : Hid (∀ W, Below w.heap.size w W → Calls Tryz.prog 142 #[.int .i64 m] W fun e w' => e = .returned (.tuple #[.string o, .int .i64 0]) ∧ Below W.heap.size W w')) :
    Calls Tryz.prog 92 #[.agg #[.int .i64 4, .int .i64 n, .int .i64 s, .string q, .int .i64 m]] w fun e w' => e = .returned (.tuple #[.string ((⟨#[64, 34]⟩ ++ o) ++ ⟨#[34]⟩), .int .i64 0]) ∧ Below w.heap.size w w' := by
  have h1 : (2 : Nat) + o.size ≤ 9223372036854775807 := by omega
  have h2 : ((⟨#[64, 34]⟩ : ByteArray) ++ o).size + 1 ≤ 9223372036854775807 := by rw [ByteArray.size_append]; show 2 + o.size + 1 ≤ _; omega
  have h3 : (2 : Nat) + o.size + 1 ≤ 9223372036854775807 := by omega
  have k0 : Blk (w.alloc (.cells #[.int .i64 4, .int .i64 n, .int .i64 s, .string q, .int .i64 m] 25)) w.heap.size 25 #[.int .i64 4, .int .i64 n, .int .i64 s, .string q, .int .i64 m] := Blk.new _ _ _
  go_enter Tryz.func92, Tryz.ntmps92
  go_wp2_with fail
  refine (KS.out _ (by (repeat' (first | (with_reducible exact Below.refl _ _) | (with_reducible assumption) | (with_reducible refine balloc ?_ _) | (with_reducible refine Below.drew ?_) | (with_reducible refine bset ?_ ?_ _) | (with_reducible refine bstep ?_ (by with_reducible assumption)) | (with_reducible refine bturn ?_ (by with_reducible assumption) ?_) | go_size)))).mono ?_
  rintro e w1 ⟨rfl, hb1⟩
  have k1 := k0.step hb1
  have hb : Below w.heap.size w w1 := by (repeat' (first | (with_reducible exact Below.refl _ _) | (with_reducible assumption) | (with_reducible refine balloc ?_ _) | (with_reducible refine Below.drew ?_) | (with_reducible refine bset ?_ ?_ _) | (with_reducible refine bstep ?_ (by with_reducible assumption)) | (with_reducible refine bturn ?_ (by with_reducible assumption) ?_) | go_size))
  clear k0
  have hlu := k1.lt; have hllu := lts hlu; have qu0 := k1.cell 0; have qu1 := k1.cell 1; have qu2 := k1.cell 2; have qu3 := k1.cell 3; have qu4 := k1.cell 4; simp at qu0 qu1 qu2 qu3 qu4; have zu0 := k1.frozen 0; have zu1 := k1.frozen 1; have zu2 := k1.frozen 2; have zu3 := k1.frozen 3; have zu4 := k1.frozen 4; have Hk1 := Lib.hid k1; clear k1
  go_wp2_with fail
  refine (KT.out _ (by (repeat' (first | (with_reducible exact Below.refl _ _) | (with_reducible assumption) | (with_reducible refine balloc ?_ _) | (with_reducible refine Below.drew ?_) | (with_reducible refine bset ?_ ?_ _) | (with_reducible refine bstep ?_ (by with_reducible assumption)) | (with_reducible refine bturn ?_ (by with_reducible assumption) ?_) | go_size)))).mono ?_
  rintro e w2 ⟨rfl, hb2⟩
  go_wp2_with fail
  go_returns
  exact ⟨rfl, by (repeat' (first | (with_reducible exact Below.refl _ _) | (with_reducible assumption) | (with_reducible refine balloc ?_ _) | (with_reducible refine Below.drew ?_) | (with_reducible refine bset ?_ ?_ _) | (with_reducible refine bstep ?_ (by with_reducible assumption)) | (with_reducible refine bturn ?_ (by with_reducible assumption) ?_) | go_size))⟩
set_option maxHeartbeats 8000000 in
set_option maxRecDepth 100000 in
theorem vt_2 (E : ByteArray) (hq : q.size ≤ 1900000) (hE : bs (escB q.data.toList) = E) (hes : E.size ≤ 3800000) (KS : Hid (∀ W, Below w.heap.size w W → Calls Tryz.prog 48 #[.agg #[.int .i64 2, .int .i64 n, .int .i64 s, .string q, .int .i64 m]] W fun e w' => e = .returned (.bool true) ∧ Below W.heap.size W w')) :
    Calls Tryz.prog 92 #[.agg #[.int .i64 2, .int .i64 n, .int .i64 s, .string q, .int .i64 m]] w fun e w' => e = .returned (.tuple #[.string ((⟨#[34]⟩ ++ E) ++ ⟨#[34]⟩), .int .i64 0]) ∧ Below w.heap.size w w' := by
  have hes1 : 1 + E.size ≤ 9223372036854775807 := by omega
  have hes2 : ((⟨#[34]⟩ : ByteArray) ++ E).size + 1 ≤ 9223372036854775807 := by rw [ByteArray.size_append]; show 1 + E.size + 1 ≤ _; omega
  have hes3 : 1 + E.size + 1 ≤ 9223372036854775807 := by omega
  have k0 : Blk (w.alloc (.cells #[.int .i64 2, .int .i64 n, .int .i64 s, .string q, .int .i64 m] 25)) w.heap.size 25 #[.int .i64 2, .int .i64 n, .int .i64 s, .string q, .int .i64 m] := Blk.new _ _ _
  go_enter Tryz.func92, Tryz.ntmps92
  go_wp2_with fail
  refine (KS.out _ (by (repeat' (first | (with_reducible exact Below.refl _ _) | (with_reducible assumption) | (with_reducible refine balloc ?_ _) | (with_reducible refine Below.drew ?_) | (with_reducible refine bset ?_ ?_ _) | (with_reducible refine bstep ?_ (by with_reducible assumption)) | (with_reducible refine bturn ?_ (by with_reducible assumption) ?_) | go_size)))).mono ?_
  rintro e w1 ⟨rfl, hb1⟩
  have k1 := k0.step hb1
  have hb0 : Below w.heap.size w w1 := by (repeat' (first | (with_reducible exact Below.refl _ _) | (with_reducible assumption) | (with_reducible refine balloc ?_ _) | (with_reducible refine Below.drew ?_) | (with_reducible refine bset ?_ ?_ _) | (with_reducible refine bstep ?_ (by with_reducible assumption)) | (with_reducible refine bturn ?_ (by with_reducible assumption) ?_) | go_size))
  have hsz := hb0.size
  clear k0
  have K1 := Lib.hid k1
  have hlu := k1.lt; have hllu := lts hlu; have qu0 := k1.cell 0; have qu1 := k1.cell 1; have qu2 := k1.cell 2; have qu3 := k1.cell 3; have qu4 := k1.cell 4; simp at qu0 qu1 qu2 qu3 qu4; have zu0 := k1.frozen 0; have zu1 := k1.frozen 1; have zu2 := k1.frozen 2; have zu3 := k1.frozen 3; have zu4 := k1.frozen 4; have Hk1 := Lib.hid k1; clear k1
  go_wp2_with fail
  go_region_with (first
    | (go_at_call 140; refine (new_rep _ _ _ (ss_newd _ _ (by simp))).mono ?_; rintro e w' ⟨rb, rg, rc, rfl, hrb, hrs, hrl, hb⟩; have hb2 : Below w1.heap.size w1 w' := bstep (by (repeat' (first | (with_reducible exact Below.refl _ _) | (with_reducible assumption) | (with_reducible refine balloc ?_ _) | (with_reducible refine Below.drew ?_) | (with_reducible refine bset ?_ ?_ _) | (with_reducible refine bstep ?_ (by with_reducible assumption)) | (with_reducible refine bturn ?_ (by with_reducible assumption) ?_) | go_size))) hb; have q3 : w'.cell? ⟨w.heap.size, 3, none⟩ = some (.string q) := (K1.out.step hb2).cell 3; have hrl2 : w1.heap.size ≤ rb := (by simp only [World.size_alloc, World.size_drew] at hrl; omega))
    | (go_at_call 141; refine (replace_any w1.heap.size _ _ _ (by with_reducible assumption) q (by omega) _ (by have := Blk.lt hrb; omega) hrb hrs).mono ?_; rw [hE]; rintro e w' ⟨rfl, hb⟩; have hbz : Below w.heap.size w w' := hb0.trans ((hb2.trans hb).mono (by omega))))
  all_goals
    go_wp2_with fail
    go_returns
    exact ⟨rfl, (by first | exact bdrewN (by (repeat' (first | (with_reducible exact Below.refl _ _) | (with_reducible assumption) | (with_reducible refine balloc ?_ _) | (with_reducible refine Below.drew ?_) | (with_reducible refine bset ?_ ?_ _) | (with_reducible refine bstep ?_ (by with_reducible assumption)) | (with_reducible refine bturn ?_ (by with_reducible assumption) ?_) | go_size))) _ | (refine bdrewN ?_; (repeat' (first | (with_reducible exact Below.refl _ _) | (with_reducible assumption) | (with_reducible refine balloc ?_ _) | (with_reducible refine Below.drew ?_) | (with_reducible refine bset ?_ ?_ _) | (with_reducible refine bstep ?_ (by with_reducible assumption)) | (with_reducible refine bturn ?_ (by with_reducible assumption) ?_) | go_size))) | exact ⟨(show Below w.heap.size w _ by (repeat' (first | (with_reducible exact Below.refl _ _) | (with_reducible assumption) | (with_reducible refine balloc ?_ _) | (with_reducible refine Below.drew ?_) | (with_reducible refine bset ?_ ?_ _) | (with_reducible refine bstep ?_ (by with_reducible assumption)) | (with_reducible refine bturn ?_ (by with_reducible assumption) ?_) | go_size))).os, (show Below w.heap.size w _ by (repeat' (first | (with_reducible exact Below.refl _ _) | (with_reducible assumption) | (with_reducible refine balloc ?_ _) | (with_reducible refine Below.drew ?_) | (with_reducible refine bset ?_ ?_ _) | (with_reducible refine bstep ?_ (by with_reducible assumption)) | (with_reducible refine bturn ?_ (by with_reducible assumption) ?_) | go_size))).tape, (show Below w.heap.size w _ by (repeat' (first | (with_reducible exact Below.refl _ _) | (with_reducible assumption) | (with_reducible refine balloc ?_ _) | (with_reducible refine Below.drew ?_) | (with_reducible refine bset ?_ ?_ _) | (with_reducible refine bstep ?_ (by with_reducible assumption)) | (with_reducible refine bturn ?_ (by with_reducible assumption) ?_) | go_size))).output, (show Below w.heap.size w _ by (repeat' (first | (with_reducible exact Below.refl _ _) | (with_reducible assumption) | (with_reducible refine balloc ?_ _) | (with_reducible refine Below.drew ?_) | (with_reducible refine bset ?_ ?_ _) | (with_reducible refine bstep ?_ (by with_reducible assumption)) | (with_reducible refine bturn ?_ (by with_reducible assumption) ?_) | go_size))).size, (show Below w.heap.size w _ by (repeat' (first | (with_reducible exact Below.refl _ _) | (with_reducible assumption) | (with_reducible refine balloc ?_ _) | (with_reducible refine Below.drew ?_) | (with_reducible refine bset ?_ ?_ _) | (with_reducible refine bstep ?_ (by with_reducible assumption)) | (with_reducible refine bturn ?_ (by with_reducible assumption) ?_) | go_size))).block⟩)⟩
end
/-- What value.Text writes for a sound value. -/
theorem vtext_any (v : Vl) (hv : vSound v) (m : Int) (w : World) (hw : OKW m w) :
    Calls Tryz.prog 92 #[.agg (cellsV v)] w fun e w' => e = .returned (.tuple #[.string (bs (vtxt v)), .int .i64 0]) ∧ Below w.heap.size w w' := by
  have KS : Hid (∀ W, Below w.heap.size w W → Calls Tryz.prog 48 #[.agg (cellsV v)] W fun e w' => e = .returned (.bool true) ∧ Below W.heap.size W w') := Lib.hid fun W hb => by
    have := vs_any v.k v.n v.s (bs v.t) v.m (vs_ok hv).n (vs_ok hv).s m W (hw.step hb)
    rw [(vs_iff v).2 hv] at this
    exact this
  obtain ⟨k, n, s, t, mm⟩ := v
  rcases hv with h | h | h | h | h
  · obtain ⟨h0, _⟩ := h
    simp only at h0
    subst h0
    exact vt_0 n s mm (bs t) w KS
  · obtain ⟨h0, h1, _⟩ := h
    simp only at h0 h1
    subst h0
    obtain ⟨b1, b2, b3, b4, _⟩ := sound_bd h1
    have e1 : (dT n s).2 = 0 := by unfold dT; rw [if_pos h1]
    refine vt_1 n s mm (bs t) w (bs (dT n s).1) KS (Lib.hid fun W hb => ?_)
    have := dtext n s ⟨by omega, by omega⟩ ⟨by omega, by omega⟩ W (hw.step hb).tab
    rw [e1] at this
    exact this
  · obtain ⟨h0, _, _, _, h1, _⟩ := h
    simp only at h0 h1
    subst h0
    have h2 := escB_two t
    have hd : (bs t).data.toList = t := rfl
    have := vt_2 n s mm (bs t) w (bs (escB t)) (by rw [bs_size]; omega) (by rw [hd]) (by rw [bs_size]; omega) KS
    have e : ((⟨#[34]⟩ : ByteArray) ++ bs (escB t)) ++ ⟨#[34]⟩ = bs (34 :: (escB t ++ [34])) := by
      rw [show (⟨#[34]⟩ : ByteArray) = bs [34] from rfl, bs_app, bs_app]
      rfl
    rw [e] at this
    exact this
  · obtain ⟨h0, _, _, _, h1⟩ := h
    simp only at h0 h1
    subst h0
    rcases h1 with rfl | rfl
    · exact vt_3f n s (bs t) w KS
    · exact vt_3t n s (bs t) w KS
  · obtain ⟨h0, _, _, _, h1, h2⟩ := h
    simp only at h0 h1 h2
    subst h0
    obtain ⟨hl, hy, _⟩ := yT_spec mm
    have e1 : (yT mm).2 = 0 := by
      obtain ⟨l, _, _, lt, _⟩ := Days.text_read mm h1 h2
      exact (yT_eq m w hw mm (lt w hw.tab)).2
    have := vt_4 n s mm (bs t) w (bs (yT mm).1) (by rw [bs_size]; omega) KS (Lib.hid fun W hb => by
      have := hy W (hw.step hb).tab
      rw [e1] at this
      exact this)
    have e : ((⟨#[64, 34]⟩ : ByteArray) ++ bs (yT mm).1) ++ ⟨#[34]⟩ = bs (64 :: 34 :: ((yT mm).1 ++ [34])) := by
      rw [show (⟨#[64, 34]⟩ : ByteArray) = bs [64, 34] from rfl, show (⟨#[34]⟩ : ByteArray) = bs [34] from rfl, bs_app, bs_app]
      rfl
    rw [e] at this
    exact this
end Go.Proofs.YtkkeplmaphcblaaGreatDoor

namespace Go.Proofs.YtkkeplmaphcblaaGreatDoor
open Go.RowKit

theorem expr_u8 : (33 : TypeId) ≠ 5 := by decide
theorem ptr_u8 : (92 : TypeId) ≠ 5 := by decide
theorem isb_lt {B b : Nat} {o : Bs} {w : World} (h : IsB B b o w) : b < w.heap.size := by
  rcases h with ⟨_, v, h2, _⟩ | ⟨_, v, h2, _⟩ <;> exact (Array.getElem?_eq_some_iff.1 h2).1
/-- What is asked of write at an expression. -/
def WrC (w0 : World) (N : Nat) (x : Ex) : Prop := ∀ (cs : Array Value) (b : Nat) (o : Bs) (w : World), XM (fun _ => True) w0 x cs → Below w0.heap.size w0 w → IsB w0.heap.size b o w → o.length + (etxt x).length ≤ N →
  Calls Tryz.prog 65 #[.agg cs, .pointer (some ⟨b, 0, none⟩)] w fun e w' => e = .returned (.tuple #[]) ∧ IsB w0.heap.size b (o ++ etxt x) w' ∧ Below w0.heap.size w0 w' ∧ Kp b w w'
set_option maxHeartbeats 8000000 in
set_option maxRecDepth 100000 in
theorem part_any (ko kk kn ks : Int) (kq : ByteArray) (km : Int) (kr : ByteArray) (kB : Option Addr) (n kc P b : Nat) (o T : Bs) (w0 w : World) (N : Nat) (hN : N ≤ 990000000) (hb : Below w0.heap.size w0 w) (hB : IsB w0.heap.size b o w) (_hP : w.cell? ⟨P, 0, none⟩ = some (.pointer (some ⟨b, 0, none⟩))) (hl : o.length + (T.length + 2) ≤ N)
    (KW : Hid (∀ W o, Below w0.heap.size w0 W → IsB w0.heap.size b o W → o.length + T.length ≤ N → Calls Tryz.prog 65 #[.agg #[.int .i64 ko, .int .i64 kk, .int .i64 kn, .int .i64 ks, .string kq, .int .i64 km, .string kr, .slice kB n kc], .pointer (some ⟨b, 0, none⟩)] W fun e w' => e = .returned (.tuple #[]) ∧ IsB w0.heap.size b (o ++ T) w' ∧ Below w0.heap.size w0 w' ∧ Kp b W w')) (PT : TypeId) (hPB : Blk w P PT #[.pointer (some ⟨b, 0, none⟩)]) (hPT : PT ≠ 5) (hPb : P ≠ b) :
    Calls Tryz.prog 105 #[.agg #[.int .i64 ko, .int .i64 kk, .int .i64 kn, .int .i64 ks, .string kq, .int .i64 km, .string kr, .slice kB n kc], .pointer (some ⟨P, 0, none⟩)] w fun e w' => e = .returned (.tuple #[]) ∧ IsB w0.heap.size b (o ++ (if n = 0 then T else 40 :: (T ++ [41]))) w' ∧ Below w0.heap.size w0 w' ∧ Kp b w w' := by
  have hbl := isb_lt hB
  have hPl := hPB.lt
  have hllP := lts hPl
  have HB := Lib.hid hB
  have HBE := Lib.hid hb
  have HL := Lib.hid hl
  have hwz := hb.size
  have k0 : Blk (w.alloc (.cells #[.int .i64 ko, .int .i64 kk, .int .i64 kn, .int .i64 ks, .string kq, .int .i64 km, .string kr, .slice kB n kc] 33)) w.heap.size 33 #[.int .i64 ko, .int .i64 kk, .int .i64 kn, .int .i64 ks, .string kq, .int .i64 km, .string kr, .slice kB n kc] := Blk.new _ _ _
  have hA : Below w.heap.size w (w.alloc (.cells #[.int .i64 ko, .int .i64 kk, .int .i64 kn, .int .i64 ks, .string kq, .int .i64 km, .string kr, .slice kB n kc] 33)) := by (repeat' (first | (with_reducible exact Below.refl _ _) | (with_reducible assumption) | (with_reducible refine balloc ?_ _) | (with_reducible refine Below.drew ?_) | (with_reducible refine bset ?_ ?_ _) | (with_reducible refine bstep ?_ (by with_reducible assumption)) | (with_reducible refine bturn ?_ (by with_reducible assumption) ?_) | go_size))
  have hs1 : (w.alloc (.cells #[.int .i64 ko, .int .i64 kk, .int .i64 kn, .int .i64 ks, .string kq, .int .i64 km, .string kr, .slice kB n kc] 33)).heap.size = w.heap.size + 1 := by simp
  have hP1 := hPB.step hA
  have B1 := Lib.hid (isb_below hB hA)
  have E1 := Lib.hid (bstep hb hA)
  have Q1 := Lib.hid (Kp.of hA : Kp b w _)
  clear hb hB _hP hl hPB
  by_cases hn : n = 0
  · subst hn
    rw [if_pos rfl]
    go_enter Tryz.func105, Tryz.ntmps105
    go_upto_region 1 with fail
    generalize (w.alloc (.cells #[.int .i64 ko, .int .i64 kk, .int .i64 kn, .int .i64 ks, .string kq, .int .i64 km, .string kr, .slice kB 0 kc] 33)) = w1 at *
    have hlx := k0.lt; have hllx := lts hlx; have qx0 := k0.cell 0; have qx1 := k0.cell 1; have qx2 := k0.cell 2; have qx3 := k0.cell 3; have qx4 := k0.cell 4; have qx5 := k0.cell 5; have qx6 := k0.cell 6; have qx7 := k0.cell 7; simp at qx0 qx1 qx2 qx3 qx4 qx5 qx6 qx7; have zx0 := k0.frozen 0; have zx1 := k0.frozen 1; have zx2 := k0.frozen 2; have zx3 := k0.frozen 3; have zx4 := k0.frozen 4; have zx5 := k0.frozen 5; have zx6 := k0.frozen 6; have zx7 := k0.frozen 7; have Hk0 := Lib.hid k0; clear k0
    have hlp := hP1.lt; have hllp := lts hlp; have qp0 := hP1.cell 0; simp at qp0; have zp0 := hP1.frozen 0; have HhP1 := Lib.hid hP1; clear hP1
    go_wp2_with fail
    refine (KW.out _ o E1.out B1.out (by have := HL.out; omega)).mono ?_
    rintro e w2 ⟨rfl, h2, hb2, hk2⟩
    go_wp2_with fail
    go_returns
    exact ⟨rfl, h2, hb2, Q1.out.trans hk2⟩
  · rw [if_neg hn]
    have hni : ((n : Int) == 0) = false := by rw [beq_eq_false_iff_ne]; omega
    go_enter Tryz.func105, Tryz.ntmps105
    go_upto_region 1 with fail
    generalize (w.alloc (.cells #[.int .i64 ko, .int .i64 kk, .int .i64 kn, .int .i64 ks, .string kq, .int .i64 km, .string kr, .slice kB n kc] 33)) = w1 at *
    have K0 := Lib.hid k0
    have HP1 := Lib.hid hP1
    have hlx := k0.lt; have hllx := lts hlx; have qx0 := k0.cell 0; have qx1 := k0.cell 1; have qx2 := k0.cell 2; have qx3 := k0.cell 3; have qx4 := k0.cell 4; have qx5 := k0.cell 5; have qx6 := k0.cell 6; have qx7 := k0.cell 7; simp at qx0 qx1 qx2 qx3 qx4 qx5 qx6 qx7; have zx0 := k0.frozen 0; have zx1 := k0.frozen 1; have zx2 := k0.frozen 2; have zx3 := k0.frozen 3; have zx4 := k0.frozen 4; have zx5 := k0.frozen 5; have zx6 := k0.frozen 6; have zx7 := k0.frozen 7; have Hk0 := Lib.hid k0; clear k0
    have hlp := hP1.lt; have hllp := lts hlp; have qp0 := hP1.cell 0; simp at qp0; have zp0 := hP1.frozen 0; have HhP1 := Lib.hid hP1; clear hP1
    go_wp2_with fail
    refine (byte_w w0.heap.size b o 40 40 rfl _ B1.out (by have := HL.out; omega) (by omega)).mono ?_
    rintro e w2 ⟨rfl, h2, hb2, hk2⟩
    have E2 := Lib.hid (E1.out.trans hb2)
    have K2 := hk2.row _ _ _ expr_u8 (by omega) K0.out
    have P2 := hk2.row _ _ _ hPT hPb HP1.out
    have HP2 := Lib.hid P2
    have hz2 := hk2.size
    clear qx0 qx1 qx2 qx3 qx4 qx5 qx6 qx7 zx0 zx1 zx2 zx3 zx4 zx5 zx6 zx7 hlx hllx qp0 zp0 hlp hllp hb2
    have hlx := K2.lt; have hllx := lts hlx; have qx0 := K2.cell 0; have qx1 := K2.cell 1; have qx2 := K2.cell 2; have qx3 := K2.cell 3; have qx4 := K2.cell 4; have qx5 := K2.cell 5; have qx6 := K2.cell 6; have qx7 := K2.cell 7; simp at qx0 qx1 qx2 qx3 qx4 qx5 qx6 qx7; have zx0 := K2.frozen 0; have zx1 := K2.frozen 1; have zx2 := K2.frozen 2; have zx3 := K2.frozen 3; have zx4 := K2.frozen 4; have zx5 := K2.frozen 5; have zx6 := K2.frozen 6; have zx7 := K2.frozen 7; have HK2 := Lib.hid K2; clear K2
    have hlp := P2.lt; have hllp := lts hlp; have qp0 := P2.cell 0; simp at qp0; have zp0 := P2.frozen 0; have HP2 := Lib.hid P2; clear P2
    go_wp2_with fail
    refine (KW.out _ _ E2.out h2 (by have := HL.out; simp; omega)).mono ?_
    rintro e w3 ⟨rfl, h3, hb3, hk3⟩
    have P3 := hk3.row _ _ _ hPT hPb HP2.out
    have hz3 := hk3.size
    clear qx0 qx1 qx2 qx3 qx4 qx5 qx6 qx7 zx0 zx1 zx2 zx3 zx4 zx5 zx6 zx7 hlx hllx qp0 zp0 hlp hllp
    have hlp := P3.lt; have hllp := lts hlp; have qp0 := P3.cell 0; simp at qp0; have zp0 := P3.frozen 0; have HP3 := Lib.hid P3; clear P3
    go_wp2_with fail
    refine (byte_w w0.heap.size b _ 41 41 rfl _ h3 (by have := HL.out; simp; omega) (by omega)).mono ?_
    rintro e w4 ⟨rfl, h4, hb4, hk4⟩
    clear qp0 zp0 hlp hllp
    go_wp2_with fail
    go_returns
    exact ⟨rfl, by simpa using h4, hb3.trans hb4, ((Q1.out.trans hk2).trans hk3).trans hk4⟩
end Go.Proofs.YtkkeplmaphcblaaGreatDoor

namespace Go.Proofs.YtkkeplmaphcblaaGreatDoor
open Go.RowKit

set_option maxHeartbeats 8000000 in
set_option maxRecDepth 100000 in
theorem write_val (vk vn vs vm : Int) (q r : ByteArray) (A : Option Addr) (c b : Nat) (o : Bs) (w0 w : World) (N : Nat) (hN : N ≤ 990000000) (hb : Below w0.heap.size w0 w) (hB : IsB w0.heap.size b o w) (n : Nat) (t : ByteArray) (hl : o.length + t.size ≤ N)
    (KV : Hid (∀ W, Below w0.heap.size w0 W → Calls Tryz.prog 92 #[.agg #[.int .i64 vk, .int .i64 vn, .int .i64 vs, .string q, .int .i64 vm]] W fun e w' => e = .returned (.tuple #[.string t, .int .i64 0]) ∧ Below W.heap.size W w')) :
    Calls Tryz.prog 65 #[.agg #[.int .i64 1, .int .i64 vk, .int .i64 vn, .int .i64 vs, .string q, .int .i64 vm, .string r, .slice A n c], .pointer (some ⟨b, 0, none⟩)] w fun e w' => e = .returned (.tuple #[]) ∧ IsB w0.heap.size b (o ++ t.data.toList) w' ∧ Below w0.heap.size w0 w' ∧ Kp b w w' := by
  have hbl := isb_lt hB
  have hwz := hb.size
  have hA : Below w.heap.size w (((w.alloc (.cells #[.int .i64 1, .int .i64 vk, .int .i64 vn, .int .i64 vs, .string q, .int .i64 vm, .string r, .slice A n c] 33)).alloc (.cells #[.pointer (some ⟨b, 0, none⟩)] 92))) := by (repeat' (first | (with_reducible exact Below.refl _ _) | (with_reducible assumption) | (with_reducible refine balloc ?_ _) | (with_reducible refine Below.drew ?_) | (with_reducible refine bset ?_ ?_ _) | (with_reducible refine bstep ?_ (by with_reducible assumption)) | (with_reducible refine bturn ?_ (by with_reducible assumption) ?_) | go_size))
  have hs1 : (((w.alloc (.cells #[.int .i64 1, .int .i64 vk, .int .i64 vn, .int .i64 vs, .string q, .int .i64 vm, .string r, .slice A n c] 33)).alloc (.cells #[.pointer (some ⟨b, 0, none⟩)] 92))).heap.size = w.heap.size + 2 := by simp
  have K1 := Lib.hid ((Blk.new _ _ _).alloc _ : Blk (((w.alloc (.cells #[.int .i64 1, .int .i64 vk, .int .i64 vn, .int .i64 vs, .string q, .int .i64 vm, .string r, .slice A n c] 33)).alloc (.cells #[.pointer (some ⟨b, 0, none⟩)] 92))) w.heap.size 33 #[.int .i64 1, .int .i64 vk, .int .i64 vn, .int .i64 vs, .string q, .int .i64 vm, .string r, .slice A n c])
  have P1 := Lib.hid (Blk.new' _ _ _ (by simp) : Blk (((w.alloc (.cells #[.int .i64 1, .int .i64 vk, .int .i64 vn, .int .i64 vs, .string q, .int .i64 vm, .string r, .slice A n c] 33)).alloc (.cells #[.pointer (some ⟨b, 0, none⟩)] 92))) (w.heap.size + 1) 92 #[.pointer (some ⟨b, 0, none⟩)])
  have B1 := Lib.hid (isb_below hB hA)
  have E1 := Lib.hid (bstep hb hA)
  have Q1 := Lib.hid (Kp.of hA : Kp b w (((w.alloc (.cells #[.int .i64 1, .int .i64 vk, .int .i64 vn, .int .i64 vs, .string q, .int .i64 vm, .string r, .slice A n c] 33)).alloc (.cells #[.pointer (some ⟨b, 0, none⟩)] 92))))
  clear hb hB
  go_enter Tryz.func65, Tryz.ntmps65
  go_upto_region 2 with fail
  generalize ((w.alloc (.cells #[.int .i64 1, .int .i64 vk, .int .i64 vn, .int .i64 vs, .string q, .int .i64 vm, .string r, .slice A n c] 33)).alloc (.cells #[.pointer (some ⟨b, 0, none⟩)] 92)) = w1 at *
  have k1 := K1.out
  have p1 := P1.out
  have hlx := k1.lt; have hllx := lts hlx; have qx0 := k1.cell 0; have qx1 := k1.cell 1; have qx2 := k1.cell 2; have qx3 := k1.cell 3; have qx4 := k1.cell 4; have qx5 := k1.cell 5; have qx6 := k1.cell 6; have qx7 := k1.cell 7; simp at qx0 qx1 qx2 qx3 qx4 qx5 qx6 qx7; have zx0 := k1.frozen 0; have zx1 := k1.frozen 1; have zx2 := k1.frozen 2; have zx3 := k1.frozen 3; have zx4 := k1.frozen 4; have zx5 := k1.frozen 5; have zx6 := k1.frozen 6; have zx7 := k1.frozen 7; have Hk1 := Lib.hid k1; clear k1
  have hlp := p1.lt; have hllp := lts hlp; have qp0 := p1.cell 0; simp at qp0; have zp0 := p1.frozen 0; have Hp1 := Lib.hid p1; clear p1
  go_wp2_with fail
  refine (KV.out _ E1.out).mono ?_
  rintro e w2 ⟨rfl, hb2⟩
  have B2 := Lib.hid (isb_below B1.out hb2)
  have E2 := Lib.hid (bstep E1.out hb2)
  have Q2 := Lib.hid (Q1.out.trans (Kp.of hb2))
  have K2 := Lib.hid (K1.out.step hb2)
  have P2 := Lib.hid (P1.out.step hb2)
  have hz2 := hb2.size
  have p2 := P2.out
  clear qx0 qx1 qx2 qx3 qx4 qx5 qx6 qx7 zx0 zx1 zx2 zx3 zx4 zx5 zx6 zx7 hlx hllx
  clear qp0 zp0 hlp hllp
  have hlp := p2.lt; have hllp := lts hlp; have qp0 := p2.cell 0; simp at qp0; have zp0 := p2.frozen 0; have Hp2 := Lib.hid p2; clear p2
  go_wp2_with fail
  refine (str_w w0.heap.size b _ t _ B2.out (by omega) (by omega)).mono ?_
  rintro e w3 ⟨rfl, h3, hb3, hk3⟩
  have E3 := Lib.hid (E2.out.trans hb3)
  have Q3 := Lib.hid (Q2.out.trans hk3)
  have K3 := Lib.hid (hk3.row _ _ _ expr_u8 (by omega) K2.out)
  have P3 := Lib.hid (hk3.row _ _ _ ptr_u8 (by omega) P2.out)
  have hz3 := hk3.size
  go_wp2_with fail
  go_returns
  exact ⟨rfl, h3, E3.out, Q3.out⟩
set_option maxHeartbeats 8000000 in
set_option maxRecDepth 100000 in
theorem write_name (vk vn vs vm : Int) (q r : ByteArray) (A : Option Addr) (c b : Nat) (o : Bs) (w0 w : World) (N : Nat) (hN : N ≤ 990000000) (hb : Below w0.heap.size w0 w) (hB : IsB w0.heap.size b o w) (n : Nat) (hl : o.length + r.size ≤ N) :
    Calls Tryz.prog 65 #[.agg #[.int .i64 2, .int .i64 vk, .int .i64 vn, .int .i64 vs, .string q, .int .i64 vm, .string r, .slice A n c], .pointer (some ⟨b, 0, none⟩)] w fun e w' => e = .returned (.tuple #[]) ∧ IsB w0.heap.size b (o ++ r.data.toList) w' ∧ Below w0.heap.size w0 w' ∧ Kp b w w' := by
  have hbl := isb_lt hB
  have hwz := hb.size
  have hA : Below w.heap.size w (((w.alloc (.cells #[.int .i64 2, .int .i64 vk, .int .i64 vn, .int .i64 vs, .string q, .int .i64 vm, .string r, .slice A n c] 33)).alloc (.cells #[.pointer (some ⟨b, 0, none⟩)] 92))) := by (repeat' (first | (with_reducible exact Below.refl _ _) | (with_reducible assumption) | (with_reducible refine balloc ?_ _) | (with_reducible refine Below.drew ?_) | (with_reducible refine bset ?_ ?_ _) | (with_reducible refine bstep ?_ (by with_reducible assumption)) | (with_reducible refine bturn ?_ (by with_reducible assumption) ?_) | go_size))
  have hs1 : (((w.alloc (.cells #[.int .i64 2, .int .i64 vk, .int .i64 vn, .int .i64 vs, .string q, .int .i64 vm, .string r, .slice A n c] 33)).alloc (.cells #[.pointer (some ⟨b, 0, none⟩)] 92))).heap.size = w.heap.size + 2 := by simp
  have K1 := Lib.hid ((Blk.new _ _ _).alloc _ : Blk (((w.alloc (.cells #[.int .i64 2, .int .i64 vk, .int .i64 vn, .int .i64 vs, .string q, .int .i64 vm, .string r, .slice A n c] 33)).alloc (.cells #[.pointer (some ⟨b, 0, none⟩)] 92))) w.heap.size 33 #[.int .i64 2, .int .i64 vk, .int .i64 vn, .int .i64 vs, .string q, .int .i64 vm, .string r, .slice A n c])
  have P1 := Lib.hid (Blk.new' _ _ _ (by simp) : Blk (((w.alloc (.cells #[.int .i64 2, .int .i64 vk, .int .i64 vn, .int .i64 vs, .string q, .int .i64 vm, .string r, .slice A n c] 33)).alloc (.cells #[.pointer (some ⟨b, 0, none⟩)] 92))) (w.heap.size + 1) 92 #[.pointer (some ⟨b, 0, none⟩)])
  have B1 := Lib.hid (isb_below hB hA)
  have E1 := Lib.hid (bstep hb hA)
  have Q1 := Lib.hid (Kp.of hA : Kp b w (((w.alloc (.cells #[.int .i64 2, .int .i64 vk, .int .i64 vn, .int .i64 vs, .string q, .int .i64 vm, .string r, .slice A n c] 33)).alloc (.cells #[.pointer (some ⟨b, 0, none⟩)] 92))))
  clear hb hB
  go_enter Tryz.func65, Tryz.ntmps65
  go_upto_region 2 with fail
  generalize ((w.alloc (.cells #[.int .i64 2, .int .i64 vk, .int .i64 vn, .int .i64 vs, .string q, .int .i64 vm, .string r, .slice A n c] 33)).alloc (.cells #[.pointer (some ⟨b, 0, none⟩)] 92)) = w1 at *
  have k1 := K1.out
  have p1 := P1.out
  have hlx := k1.lt; have hllx := lts hlx; have qx0 := k1.cell 0; have qx1 := k1.cell 1; have qx2 := k1.cell 2; have qx3 := k1.cell 3; have qx4 := k1.cell 4; have qx5 := k1.cell 5; have qx6 := k1.cell 6; have qx7 := k1.cell 7; simp at qx0 qx1 qx2 qx3 qx4 qx5 qx6 qx7; have zx0 := k1.frozen 0; have zx1 := k1.frozen 1; have zx2 := k1.frozen 2; have zx3 := k1.frozen 3; have zx4 := k1.frozen 4; have zx5 := k1.frozen 5; have zx6 := k1.frozen 6; have zx7 := k1.frozen 7; have Hk1 := Lib.hid k1; clear k1
  have hlp := p1.lt; have hllp := lts hlp; have qp0 := p1.cell 0; simp at qp0; have zp0 := p1.frozen 0; have Hp1 := Lib.hid p1; clear p1
  go_wp2_with fail
  refine (str_w w0.heap.size b _ r _ B1.out (by omega) (by omega)).mono ?_
  rintro e w2 ⟨rfl, h2, hb2, hk2⟩
  have E2 := Lib.hid (E1.out.trans hb2)
  have Q2 := Lib.hid (Q1.out.trans hk2)
  have K2 := Lib.hid (hk2.row _ _ _ expr_u8 (by omega) K1.out)
  have P2 := Lib.hid (hk2.row _ _ _ ptr_u8 (by omega) P1.out)
  have hz2 := hk2.size
  go_wp2_with fail
  go_returns
  exact ⟨rfl, h2, E2.out, Q2.out⟩
set_option maxHeartbeats 8000000 in
set_option maxRecDepth 100000 in
theorem write_neg (vk vn vs vm : Int) (q r : ByteArray) (A : Option Addr) (c b : Nat) (o : Bs) (w0 w : World) (N : Nat) (hN : N ≤ 990000000) (hb : Below w0.heap.size w0 w) (hB : IsB w0.heap.size b o w) (L : List Ex) (y : Ex) (hy : L[0]? = some y) (hk : KD w0 A L) (L1 : L.length = 1) (KW : WrC w0 N y) (hl : o.length + ((etxt y).length + 10) ≤ N) :
    Calls Tryz.prog 65 #[.agg #[.int .i64 3, .int .i64 vk, .int .i64 vn, .int .i64 vs, .string q, .int .i64 vm, .string r, .slice A L.length c], .pointer (some ⟨b, 0, none⟩)] w fun e w' => e = .returned (.tuple #[]) ∧ IsB w0.heap.size b (o ++ 45 :: brT y.kids (etxt y)) w' ∧ Below w0.heap.size w0 w' ∧ Kp b w w' := by
  obtain ⟨g, off, ko, kk, kn, ks, kq, km, kr, kB, kl, kc, rfl, hxm, KF⟩ := hk.get 0 y hy
  have HF := Lib.hid KF
  clear hk KF
  obtain ⟨T, hT⟩ : ∃ T, etxt y = T := ⟨_, rfl⟩
  have hkl : kl = y.kids.length := by
    obtain ⟨A2, c2, h⟩ := hxm.get
    simp only [Array.mk.injEq, List.cons.injEq, Value.slice.injEq] at h
    exact h.2.2.2.2.2.2.2.1.2.1
  have hbr : brT y.kids T = if kl = 0 then T else 40 :: (T ++ [41]) := by
    unfold brT
    rw [hkl]
    cases y.kids with
    | nil => rfl
    | cons a r => rfl
  have KW2 : Hid (∀ W o, Below w0.heap.size w0 W → IsB w0.heap.size b o W → o.length + T.length ≤ N → Calls Tryz.prog 65 #[.agg #[.int .i64 ko, .int .i64 kk, .int .i64 kn, .int .i64 ks, .string kq, .int .i64 km, .string kr, .slice kB kl kc], .pointer (some ⟨b, 0, none⟩)] W fun e w' => e = .returned (.tuple #[]) ∧ IsB w0.heap.size b (o ++ T) w' ∧ Below w0.heap.size w0 w' ∧ Kp b W w') := Lib.hid fun W o h1 h2 h3 => by
    have := KW _ b o W hxm h1 h2 (by rw [hT]; exact h3)
    rw [hT] at this
    exact this
  obtain ⟨Y, hY⟩ : ∃ Y, brT y.kids T = Y := ⟨_, rfl⟩
  rw [hY] at hbr
  have HY := Lib.hid hbr
  rw [hT] at hl
  rw [hT, hY]
  have h1i : (0 : Int) < (L.length : Int) := by omega
  have HLen := Lib.hid hl
  clear hxm hkl hbr hT hY KW hy hl L1
  have hbl := isb_lt hB
  have hwz := hb.size
  have hA : Below w.heap.size w (((w.alloc (.cells #[.int .i64 3, .int .i64 vk, .int .i64 vn, .int .i64 vs, .string q, .int .i64 vm, .string r, .slice (some ⟨g, off, none⟩) L.length c] 33)).alloc (.cells #[.pointer (some ⟨b, 0, none⟩)] 92))) := by (repeat' (first | (with_reducible exact Below.refl _ _) | (with_reducible assumption) | (with_reducible refine balloc ?_ _) | (with_reducible refine Below.drew ?_) | (with_reducible refine bset ?_ ?_ _) | (with_reducible refine bstep ?_ (by with_reducible assumption)) | (with_reducible refine bturn ?_ (by with_reducible assumption) ?_) | go_size))
  have hs1 : (((w.alloc (.cells #[.int .i64 3, .int .i64 vk, .int .i64 vn, .int .i64 vs, .string q, .int .i64 vm, .string r, .slice (some ⟨g, off, none⟩) L.length c] 33)).alloc (.cells #[.pointer (some ⟨b, 0, none⟩)] 92))).heap.size = w.heap.size + 2 := by simp
  have K1 := Lib.hid ((Blk.new _ _ _).alloc _ : Blk (((w.alloc (.cells #[.int .i64 3, .int .i64 vk, .int .i64 vn, .int .i64 vs, .string q, .int .i64 vm, .string r, .slice (some ⟨g, off, none⟩) L.length c] 33)).alloc (.cells #[.pointer (some ⟨b, 0, none⟩)] 92))) w.heap.size 33 #[.int .i64 3, .int .i64 vk, .int .i64 vn, .int .i64 vs, .string q, .int .i64 vm, .string r, .slice (some ⟨g, off, none⟩) L.length c])
  have P1 := Lib.hid (Blk.new' _ _ _ (by simp) : Blk (((w.alloc (.cells #[.int .i64 3, .int .i64 vk, .int .i64 vn, .int .i64 vs, .string q, .int .i64 vm, .string r, .slice (some ⟨g, off, none⟩) L.length c] 33)).alloc (.cells #[.pointer (some ⟨b, 0, none⟩)] 92))) (w.heap.size + 1) 92 #[.pointer (some ⟨b, 0, none⟩)])
  have B1 := Lib.hid (isb_below hB hA)
  have E1 := Lib.hid (bstep hb hA)
  have Q1 := Lib.hid (Kp.of hA : Kp b w (((w.alloc (.cells #[.int .i64 3, .int .i64 vk, .int .i64 vn, .int .i64 vs, .string q, .int .i64 vm, .string r, .slice (some ⟨g, off, none⟩) L.length c] 33)).alloc (.cells #[.pointer (some ⟨b, 0, none⟩)] 92))))
  clear hb hB
  go_enter Tryz.func65, Tryz.ntmps65
  go_upto_region 2 with fail
  generalize ((w.alloc (.cells #[.int .i64 3, .int .i64 vk, .int .i64 vn, .int .i64 vs, .string q, .int .i64 vm, .string r, .slice (some ⟨g, off, none⟩) L.length c] 33)).alloc (.cells #[.pointer (some ⟨b, 0, none⟩)] 92)) = w1 at *
  have k1 := K1.out
  have p1 := P1.out
  have hlx := k1.lt; have hllx := lts hlx; have qx0 := k1.cell 0; have qx1 := k1.cell 1; have qx2 := k1.cell 2; have qx3 := k1.cell 3; have qx4 := k1.cell 4; have qx5 := k1.cell 5; have qx6 := k1.cell 6; have qx7 := k1.cell 7; simp at qx0 qx1 qx2 qx3 qx4 qx5 qx6 qx7; have zx0 := k1.frozen 0; have zx1 := k1.frozen 1; have zx2 := k1.frozen 2; have zx3 := k1.frozen 3; have zx4 := k1.frozen 4; have zx5 := k1.frozen 5; have zx6 := k1.frozen 6; have zx7 := k1.frozen 7; have Hk1 := Lib.hid k1; clear k1
  have hlp := p1.lt; have hllp := lts hlp; have qp0 := p1.cell 0; simp at qp0; have zp0 := p1.frozen 0; have Hp1 := Lib.hid p1; clear p1
  go_wp2_with fail
  refine (byte_w w0.heap.size b o 45 45 rfl _ B1.out (by have := HLen.out; omega) (by omega)).mono ?_
  rintro e w2 ⟨rfl, h2, hb2, hk2⟩
  have E2 := Lib.hid (E1.out.trans hb2)
  have Q2 := Lib.hid (Q1.out.trans hk2)
  have K2 := Lib.hid (hk2.row _ _ _ expr_u8 (by omega) K1.out)
  have P2 := Lib.hid (hk2.row _ _ _ ptr_u8 (by omega) P1.out)
  have hz2 := hk2.size
  clear qx0 qx1 qx2 qx3 qx4 qx5 qx6 qx7 zx0 zx1 zx2 zx3 zx4 zx5 zx6 zx7 hlx hllx
  clear qp0 zp0 hlp hllp
  have k2 := K2.out
  have p2 := P2.out
  have hlx := k2.lt; have hllx := lts hlx; have qx0 := k2.cell 0; have qx1 := k2.cell 1; have qx2 := k2.cell 2; have qx3 := k2.cell 3; have qx4 := k2.cell 4; have qx5 := k2.cell 5; have qx6 := k2.cell 6; have qx7 := k2.cell 7; simp at qx0 qx1 qx2 qx3 qx4 qx5 qx6 qx7; have zx0 := k2.frozen 0; have zx1 := k2.frozen 1; have zx2 := k2.frozen 2; have zx3 := k2.frozen 3; have zx4 := k2.frozen 4; have zx5 := k2.frozen 5; have zx6 := k2.frozen 6; have zx7 := k2.frozen 7; have Hk2 := Lib.hid k2; clear k2
  have hlp := p2.lt; have hllp := lts hlp; have qp0 := p2.cell 0; simp at qp0; have zp0 := p2.frozen 0; have Hp2 := Lib.hid p2; clear p2
  obtain ⟨y0, y1, y2, y3, y4, y5, y6, y7⟩ := HF.out
  replace y0 := keep1 E2.out y0
  replace y1 := keep1 E2.out y1
  replace y2 := keep1 E2.out y2
  replace y3 := keep1 E2.out y3
  replace y4 := keep1 E2.out y4
  replace y5 := keep1 E2.out y5
  replace y6 := keep1 E2.out y6
  replace y7 := keep1 E2.out y7
  simp only [Nat.zero_mul, Nat.add_zero] at y0 y1 y2 y3 y4 y5 y6 y7
  go_wp2_with fail
  refine (part_any ko kk kn ks kq km kr kB kl kc (w.heap.size + 1) b _ T w0 w2 N hN E2.out h2 qp0 (by have := HLen.out; simp; omega) KW2 _ P2.out ptr_u8 (by omega)).mono ?_
  rintro e w3 ⟨rfl, h3, hb3, hk3⟩
  clear y0 y1 y2 y3 y4 y5 y6 y7
  clear qx0 qx1 qx2 qx3 qx4 qx5 qx6 qx7 zx0 zx1 zx2 zx3 zx4 zx5 zx6 zx7 hlx hllx
  clear qp0 zp0 hlp hllp
  go_wp2_with fail
  go_returns
  exact ⟨rfl, by rw [HY.out]; simpa using h3, hb3, Q2.out.trans hk3⟩
end Go.Proofs.YtkkeplmaphcblaaGreatDoor

namespace Go.Proofs.YtkkeplmaphcblaaGreatDoor
open Go.RowKit

theorem bigL_at {L : List Ex} {k : Nat} {x : Ex} {d : Nat} {l : Int} (hx : L[k]? = some x) : bigL (L.drop k) d l = if 0 ≤ l then bigL (L.drop (k + 1)) d (bigS x d l) else l := by
  obtain ⟨hk, rfl⟩ := List.getElem?_eq_some_iff.1 hx
  rw [List.drop_eq_getElem_cons hk, bigL]
theorem big_bd : ∀ (x : Ex) (d : Nat) (l : Int), 0 ≤ l → -1 ≤ bigS x d l ∧ bigS x d l ≤ l := by
  intro x
  induction x using ex_ind with
  | h o v s kids ih =>
    intro d l hl
    rw [bigS]
    split
    · omega
    · have : ∀ (K : List Ex), (∀ k ∈ K, k ∈ kids) → ∀ l : Int, -1 ≤ l → -1 ≤ bigL K (d + 1) l ∧ bigL K (d + 1) l ≤ l := by
        intro K
        induction K with
        | nil => intro _ l hl; rw [bigL]; omega
        | cons k K ihK =>
          intro hK l hl
          rw [bigL]
          split
          · rename_i h0
            have h1 := ih k (hK k (by simp)) (d + 1) l h0
            have h2 := ihK (fun k hk => hK k (by simp [hk])) _ h1.1
            omega
          · omega
      have := this kids (fun k h => h) (l - 1) (by omega)
      omega
def BigC8 (w0 : World) (x : Ex) : Prop := ∀ (cs : Array Value) (d : Nat) (l : Int) (w : World), XM (fun _ => True) w0 x cs → Below w0.heap.size w0 w → d ≤ 81 → 0 ≤ l → l ≤ 1000 →
  Calls Tryz.prog 19 #[.agg cs, .int .i64 (d : Int), .int .i64 l] w fun e w' => e = .returned (.int .i64 (bigS x d l)) ∧ Below w.heap.size w w'
set_option maxHeartbeats 8000000 in
set_option maxRecDepth 100000 in
theorem big8_node (o vk vn vs vm : Int) (q r : ByteArray) (A : Option Addr) (c : Nat) (L : List Ex) (d d1 : Nat) (l l1 : Int) (w0 w : World) (hk : KD w0 A L) (hb : Below w0.heap.size w0 w) (hd1 : d1 = d + 1) (hd : d ≤ 81) (hl1 : l1 = l - 1) (hl0 : 0 ≤ l) (hl : l ≤ 1000) (hK : ∀ k ∈ L, BigC8 w0 k) :
    Calls Tryz.prog 19 #[.agg #[.int .i64 o, .int .i64 vk, .int .i64 vn, .int .i64 vs, .string q, .int .i64 vm, .string r, .slice A L.length c], .int .i64 (d : Int), .int .i64 l] w fun e w' => e = .returned (.int .i64 (if 80 < d then -1 else bigL L d1 l1)) ∧ Below w.heap.size w w' := by
  have HK := Lib.hid hk
  have HKK := Lib.hid hK
  have HB := Lib.hid hb
  have hn := hk.n
  have hlw : IntKind.i64.wrap (l - 1) = l1 := by rw [IntWalk.i64_in _ (by omega)]; exact hl1.symm
  have hdw : IntKind.i64.wrap ((d : Int) + 1) = (d1 : Int) := by rw [IntWalk.i64_in _ (by omega)]; omega
  have k0 : Blk (w.alloc (.cells #[.int .i64 o, .int .i64 vk, .int .i64 vn, .int .i64 vs, .string q, .int .i64 vm, .string r, .slice A L.length c] 33)) w.heap.size 33 #[.int .i64 o, .int .i64 vk, .int .i64 vn, .int .i64 vs, .string q, .int .i64 vm, .string r, .slice A L.length c] := Blk.new _ _ _
  by_cases hc : 80 < d
  · rw [if_pos hc]
    have hci : (80 : Int) < (d : Int) := by omega
    clear hk hK hb k0 hc
    go_enter Tryz.func19, Tryz.ntmps19
    go_wp2_with fail
    go_returns
    exact ⟨rfl, by (repeat' (first | (with_reducible exact Below.refl _ _) | (with_reducible assumption) | (with_reducible refine balloc ?_ _) | (with_reducible refine Below.drew ?_) | (with_reducible refine bset ?_ ?_ _) | (with_reducible refine bstep ?_ (by with_reducible assumption)) | (with_reducible refine bturn ?_ (by with_reducible assumption) ?_) | go_size))⟩
  · rw [if_neg hc]
    obtain ⟨R, hR⟩ : ∃ R, bigL L d1 l1 = R := ⟨_, rfl⟩
    have HR : Hid (bigL L d1 l1 = R ∧ -1 ≤ l1 ∧ l1 ≤ 1000 ∧ d1 ≤ 81) := Lib.hid ⟨hR, by omega, by omega, by omega⟩
    rw [hR]
    have hci : ¬ (80 : Int) < (d : Int) := by omega
    clear hk hK hb hR hc hl1 hl0 hl hd hd1
    go_enter Tryz.func19, Tryz.ntmps19
    go_wp2_with fail
    go_loopw [7, 2] (fun i lv wr => ∃ (k : Nat) (lk : Int), k ≤ L.length ∧ i = .int .i64 (k : Int) ∧ lv = .int .i64 lk ∧ Below w.heap.size w wr ∧ Blk wr w.heap.size 33 #[.int .i64 o, .int .i64 vk, .int .i64 vn, .int .i64 vs, .string q, .int .i64 vm, .string r, .slice A L.length c] ∧ Hid (bigL (L.drop k) d1 lk = R ∧ -1 ≤ lk ∧ lk ≤ 1000)) (fun i _ _ => L.length - (intOf i).toNat)
    case atStart => exact ⟨0, l1, by omega, rfl, rfl, by (repeat' (first | (with_reducible exact Below.refl _ _) | (with_reducible assumption) | (with_reducible refine balloc ?_ _) | (with_reducible refine Below.drew ?_) | (with_reducible refine bset ?_ ?_ _) | (with_reducible refine bstep ?_ (by with_reducible assumption)) | (with_reducible refine bturn ?_ (by with_reducible assumption) ?_) | go_size)), k0, Lib.hid ⟨HR.out.1, HR.out.2.1, HR.out.2.2.1⟩⟩
    case round =>
      obtain ⟨k, lk, hkk, rfl, rfl, hb, kx, HQ⟩ := hrel
      have hb0 : Below w0.heap.size w0 wr := HB.out.trans (hb.mono (by have := HB.out.size; omega))
      have KX := Lib.hid kx
      clear k0
      by_cases hlt : k < L.length
      · obtain ⟨x, hx⟩ : ∃ x, L[k]? = some x := ⟨L[k], List.getElem?_eq_getElem hlt⟩
        have hki : (k : Int) < (L.length : Int) := by omega
        by_cases h0 : 0 ≤ lk
        · have hkn : IntKind.i64.wrap ((k : Int) + 1) = ((k + 1 : Nat) : Int) := by rw [IntWalk.i64_in _ (by omega)]; omega
          obtain ⟨g, off, ko, kk', kn, ks, kq, km, kr, kB, kl, kc, rfl, hxm, q0, q1, q2, q3, q4, q5, q6, q7⟩ := HK.out.get k x hx
          replace q0 := keep1 hb0 q0
          replace q1 := keep1 hb0 q1
          replace q2 := keep1 hb0 q2
          replace q3 := keep1 hb0 q3
          replace q4 := keep1 hb0 q4
          replace q5 := keep1 hb0 q5
          replace q6 := keep1 hb0 q6
          replace q7 := keep1 hb0 q7
          have KC := Lib.hid (HKK.out x (List.mem_of_getElem? hx) _ d1 lk wr hxm hb0 HR.out.2.2.2 h0 HQ.out.2.2)
          have hq := HQ.out.1
          rw [bigL_at hx, if_pos h0] at hq
          obtain ⟨b, hbb⟩ : ∃ b, bigS x d1 lk = b := ⟨_, rfl⟩
          have hbd := big_bd x d1 lk h0
          rw [hbb] at KC hq hbd
          have HQ2 : Hid (bigL (L.drop (k + 1)) d1 b = R ∧ -1 ≤ b ∧ b ≤ 1000) := Lib.hid ⟨hq, hbd.1, by have := HQ.out.2.2; omega⟩
          clear hx hxm hq hbb HQ hbd
          have hlx := kx.lt; have hllx := lts hlx; have qx0 := kx.cell 0; have qx1 := kx.cell 1; have qx2 := kx.cell 2; have qx3 := kx.cell 3; have qx4 := kx.cell 4; have qx5 := kx.cell 5; have qx6 := kx.cell 6; have qx7 := kx.cell 7; simp at qx0 qx1 qx2 qx3 qx4 qx5 qx6 qx7; have zx0 := kx.frozen 0; have zx1 := kx.frozen 1; have zx2 := kx.frozen 2; have zx3 := kx.frozen 3; have zx4 := kx.frozen 4; have zx5 := kx.frozen 5; have zx6 := kx.frozen 6; have zx7 := kx.frozen 7; have Hkx := Lib.hid kx; clear kx
          go_wp2_with fail
          refine (KC.out).mono ?_
          rintro e w2 ⟨rfl, hb2⟩
          clear q0 q1 q2 q3 q4 q5 q6 q7 qx0 qx1 qx2 qx3 qx4 qx5 qx6 qx7 zx0 zx1 zx2 zx3 zx4 zx5 zx6 zx7 hlx hllx
          go_wp2_with fail
          go_roundw
          case rel => exact ⟨k + 1, b, by omega, by go_num, rfl, by (repeat' (first | (with_reducible exact Below.refl _ _) | (with_reducible assumption) | (with_reducible refine balloc ?_ _) | (with_reducible refine Below.drew ?_) | (with_reducible refine bset ?_ ?_ _) | (with_reducible refine bstep ?_ (by with_reducible assumption)) | (with_reducible refine bturn ?_ (by with_reducible assumption) ?_) | go_size)), KX.out.step hb2, HQ2⟩
          case measure => simp [intOf]; omega
        · have hq := HQ.out.1
          rw [bigL_at hx, if_neg h0] at hq
          have HQ3 := Lib.hid hq
          clear HQ hq hx
          have hlx := kx.lt; have hllx := lts hlx; have qx0 := kx.cell 0; have qx1 := kx.cell 1; have qx2 := kx.cell 2; have qx3 := kx.cell 3; have qx4 := kx.cell 4; have qx5 := kx.cell 5; have qx6 := kx.cell 6; have qx7 := kx.cell 7; simp at qx0 qx1 qx2 qx3 qx4 qx5 qx6 qx7; have zx0 := kx.frozen 0; have zx1 := kx.frozen 1; have zx2 := kx.frozen 2; have zx3 := kx.frozen 3; have zx4 := kx.frozen 4; have zx5 := kx.frozen 5; have zx6 := kx.frozen 6; have zx7 := kx.frozen 7; have Hkx := Lib.hid kx; clear kx
          go_wp2_with fail
          go_returns
          exact ⟨by rw [← HQ3.out]; rfl, hb⟩
      · obtain rfl : k = L.length := by omega
        have hq := HQ.out.1
        rw [List.drop_length, bigL] at hq
        have HQ3 := Lib.hid hq
        clear hlt HQ hq
        have hlx := kx.lt; have hllx := lts hlx; have qx0 := kx.cell 0; have qx1 := kx.cell 1; have qx2 := kx.cell 2; have qx3 := kx.cell 3; have qx4 := kx.cell 4; have qx5 := kx.cell 5; have qx6 := kx.cell 6; have qx7 := kx.cell 7; simp at qx0 qx1 qx2 qx3 qx4 qx5 qx6 qx7; have zx0 := kx.frozen 0; have zx1 := kx.frozen 1; have zx2 := kx.frozen 2; have zx3 := kx.frozen 3; have zx4 := kx.frozen 4; have zx5 := kx.frozen 5; have zx6 := kx.frozen 6; have zx7 := kx.frozen 7; have Hkx := Lib.hid kx; clear kx
        go_wp2_with fail
        go_returns
        exact ⟨by rw [← HQ3.out]; rfl, hb⟩
theorem big8_all (w0 : World) : ∀ x, BigC8 w0 x := by
  intro x
  induction x using ex_ind with
  | h o v s kids ih =>
    intro cs d l w hx hb hd hl0 hl
    obtain ⟨A, c, rfl, hk⟩ := hx.kd
    have := big8_node o v.k v.n v.s v.m (bs v.t) (bs s) A c kids d (d + 1) l (l - 1) w0 w hk hb rfl hd rfl hl0 hl fun k hkm => ih k hkm
    rw [bigS]
    exact this
end Go.Proofs.YtkkeplmaphcblaaGreatDoor

namespace Go.Proofs.YtkkeplmaphcblaaGreatDoor
open Go.ChangeShapes Go.WideShapes Go.ChangeAt Go.RowKit Go.Deep Go.Shelf

theorem cells_exp : Tryz.prog.cellsOf 33 = 8 := by kernel_rfl
theorem cells_exps : Tryz.prog.cellsOf 31 = 1 := by kernel_rfl
instance : Inhabited Ex := ⟨zeroE⟩
/-- What its numbers and lengths keep to. -/
inductive EOk : Ex → Prop
  | mk (o : Int) (v : Vl) (s : Bs) (kids : List Ex) (ho : I64 o) (hk : I64 v.k) (hv : VOk v) (ht : v.t.length ≤ maxLen) (hs : s.length ≤ maxLen) (hl : kids.length ≤ maxLen) (h : ∀ k ∈ kids, EOk k) : EOk (.mk o v s kids)
section
variable {H : Type} {enc : TypeId × Value → H} {w : World} {base : Nat} {spare : Nat → Bool} {held : Bool}
set_option maxRecDepth 100000 in
theorem expr_shape (fuel : Nat) : ∀ (cs : List Value) (x : DataW H × List MemPlace), DataW.trod enc Tryz.prog w base spare held fuel 33 cs = some x → ∃ e : Ex, XM (fun _ => True) w e cs.toArray ∧ EOk e := by
  induction fuel using Nat.strongRecOn with
  | ind fuel ih =>
    intro cs x h
    obtain ⟨xs, n, rfl, _, hl, hxl, hf⟩ := DataW.trod_struct Tryz.underlying33 h
    rw [cells_exp] at hl
    match cs, hl with
    | [c0, c1, c2, c3, c4, c5, c6, c7], _ =>
      match xs, hxl with
      | [y0, y1, y2, y3], _ =>
        have h0 := hf 0 _ rfl
        have h1 := hf 1 _ rfl
        have h2 := hf 2 _ rfl
        have h3 := hf 3 _ rfl
        simp only [List.getElem?_cons_zero, List.getElem?_cons_succ] at h0 h1 h2 h3
        obtain ⟨o, e0, _, wo⟩ := DataW.trod_int Tryz.underlying3 h0
        obtain ⟨v, e1, hvk, hvo, hvt⟩ := val_shape h1
        obtain ⟨t, e2, _, wt⟩ := DataW.trod_string Tryz.underlying9 h2
        have hk : ∃ (A : Option Addr) (c : Nat) (kids : List Ex) (f : Nat → Array Value), [c7] = [.slice A kids.length c] ∧ kids.length ≤ maxLen ∧ (∀ i k, kids[i]? = some k → XM (fun _ => True) w k (f i) ∧ EOk k) ∧
            ∀ i k, kids[i]? = some k → ∃ g b, A = some ⟨g, b, none⟩ ∧ True ∧ ∀ j u, (f i)[j]? = some u → w.cell? ⟨g, b + i * 8 + j, none⟩ = some u := by
          rcases DataW.trod_slice Tryz.underlying31 h3 with ⟨hcs, _⟩ | ⟨a, len, cap, elems, rest, n', rfl, hcs, _, _, hlc, hm, hel, hi, _⟩
          · exact ⟨none, 0, [], fun _ => #[], hcs, by simp, (fun i k h => by simp at h), (fun i k h => by simp at h)⟩
          · have hex : ∀ i, i < len → ∃ q : Ex × List Value, XM (fun _ => True) w q.1 q.2.toArray ∧ EOk q.1 ∧ ∀ j, j < 8 → w.cell? ((a.add (i * 8)).add j) = q.2[j]? := fun i hil => by
              have hb := hi i hil
              rw [cells_exp] at hb
              have hel2 : elems[i]? = some (elems[i]'(by omega)) := List.getElem?_eq_getElem _
              rw [hel2] at hb
              obtain ⟨cs', hc, ht⟩ := Option.bind_eq_some_iff.1 hb
              obtain ⟨e, he, hok⟩ := ih n' (by omega) cs' _ ht
              obtain ⟨_, _, hat⟩ := World.cells?_some hc
              exact ⟨(e, cs'), he, hok, hat⟩
            obtain ⟨f, hfv⟩ := choose_lt hex
            refine ⟨some a, cap, (List.range len).map fun i => (f i).1, fun i => (f i).2.toArray, by
            have h9 : List.take (Tryz.prog.cellsOf 31) [c7] = [.slice (some a) len cap] := hcs
            rw [cells_exps] at h9
            simpa using h9, by simpa using Nat.le_trans hlc hm, fun i k hk => ?_, fun i k hk => ?_⟩
            · have hil : i < len := by
                have := (List.getElem?_eq_some_iff.1 hk).1
                simpa using this
              have hk' : (f i).1 = k := by simpa [hil] using hk
              subst hk'
              exact ⟨(hfv i hil).1, (hfv i hil).2.1⟩
            · have hil : i < len := by
                have := (List.getElem?_eq_some_iff.1 hk).1
                simpa using this
              have hc := (hfv i hil).2.2
              have hz8 : (f i).2.length = 8 := by simpa using (hfv i hil).1.size
              have hs : a.spot = none := by
                rcases Option.eq_none_or_eq_some a.spot with h | ⟨y, h⟩
                · exact h
                · exfalso
                  have hz0 : (f 0).2.length = 8 := by simpa using (hfv 0 (by omega)).1.size
                  have h2 := (hfv 0 (by omega)).2.2 0 (by decide)
                  have h3 : (f 0).2[0]? = some ((f 0).2[0]'(by omega)) := List.getElem?_eq_getElem _
                  rw [h3] at h2
                  simp [Addr.add, World.cell?, h] at h2
                  split at h2 <;> simp at h2
              obtain ⟨b, off, sp⟩ := a
              simp only at hs
              subst hs
              have e : ∀ j, ((⟨b, off, none⟩ : Addr).add (i * 8)).add j = ⟨b, off + i * 8 + j, none⟩ := fun j => by
                rw [add_add]
                unfold Addr.add
                split
                · next h => simp only [Addr.mk.injEq, and_true, true_and]; omega
                · simp only [Addr.mk.injEq, and_true, true_and]; omega
              refine ⟨b, off, rfl, trivial, fun j u hj => ?_⟩
              have hj2 : (f i).2[j]? = some u := by simpa using hj
              have hjn : j < 8 := by rw [← hz8]; exact (List.getElem?_eq_some_iff.1 hj2).1
              have := hc j hjn
              rw [e] at this
              rw [this]
              exact hj2
        obtain ⟨A, c, kids, f, e3, hkl, hkx, hkc⟩ := hk
        unfold cellsV at e1
        cases e0; cases e1; cases e2; cases e3
        refine ⟨.mk o v t.data.toList kids, ?_, .mk o v _ kids (lit_i64 wo) hvk hvo hvt (by simpa using wt) hkl fun k hk => ?_⟩
        · exact .mk o v t.data.toList kids A c f hkl (fun i k h => (hkx i k h).1) hkc
        · obtain ⟨i, hi⟩ := List.mem_iff_getElem?.1 hk
          exact (hkx i k hi).2
set_option maxRecDepth 100000 in
/-- An expression that came in. -/
theorem open_expr {r : Reach} {b0 : Nat} {v : Value} {d : DataW H} {p : List MemPlace} (hv : Value.okWide Tryz.prog w r b0 33 v) (h : DataW.Trod enc Tryz.prog w base spare held 33 v d p) :
    ∃ (e : Ex) (cs : Array Value), v = .agg cs ∧ XM (fun _ => True) w e cs ∧ EOk e := by
  obtain ⟨cs, rfl, hsz⟩ := okWide_struct Tryz.underlying33 hv
  obtain ⟨fuel, hf⟩ := h
  obtain ⟨e, h1, h2⟩ := expr_shape fuel _ _ hf
  exact ⟨e, cs, rfl, (by simpa using h1 : XM (fun _ => True) w e (Value.agg cs).cells), h2⟩
end
end Go.Proofs.YtkkeplmaphcblaaGreatDoor

namespace Go.Proofs.YtkkeplmaphcblaaGreatDoor
open Go.RowKit
attribute [local go_sem high] run_vl_eql run_vl_neq

def SameC (w0 : World) (x : Ex) : Prop := ∀ (y : Ex) (cs ds : Array Value) (w : World), XM (fun _ => True) w0 x cs → XM (fun _ => True) w0 y ds → Below w0.heap.size w0 w →
  Calls Tryz.prog 33 #[.agg cs, .agg ds] w fun e w' => e = .returned (.bool (eqE x y)) ∧ Below w.heap.size w w'
set_option maxHeartbeats 8000000 in
set_option maxRecDepth 100000 in
theorem eqf_walk (A : Option Addr) (c : Nat) (L : List Ex) (A' : Option Addr) (c' : Nat) (M : List Ex) (w0 w : World) (hk : KD w0 A L) (hk' : KD w0 A' M) (hb : Below w0.heap.size w0 w) (e4 : Bool) (he4 : (L.length == M.length) = e4) (hK : ∀ k ∈ L, SameC w0 k) :
    Calls Tryz.prog 69 #[.slice A L.length c, .slice A' M.length c', .func (.func 33) #[] #[]] w fun e w' => e = .returned (.bool (e4 && eqL L M)) ∧ Below w.heap.size w w' := by
  have HK := Lib.hid hk
  have HK' := Lib.hid hk'
  have HKK := Lib.hid hK
  have HB := Lib.hid hb
  have hn := hk.n
  have he4i : (((L.length : Nat) : Int) != ((M.length : Nat) : Int)) = !e4 := by
    cases e4 with
    | true =>
      have h : L.length = M.length := by simpa using he4
      have h2 : (L.length : Int) = (M.length : Int) := by omega
      simpa using h2
    | false =>
      have h : ¬ L.length = M.length := by simpa using he4
      have h2 : ¬ (L.length : Int) = (M.length : Int) := by omega
      simpa using h2
  obtain ⟨R, hR⟩ : ∃ R, eqL L M = R := ⟨_, rfl⟩
  have HR : Hid (eqL (L.drop 0) (M.drop 0) = R) := Lib.hid hR
  have HLM : Hid (e4 = true → L.length = M.length) := Lib.hid fun h => by rw [h] at he4; simpa using he4
  rw [hR]
  clear hk hk' hK hb hR he4
  cases e4 with
  | false =>
    rw [Bool.not_false] at he4i
    go_enter Tryz.func69, Tryz.ntmps69
    go_wp2_with fail
    go_returns
    exact ⟨rfl, by (repeat' (first | (with_reducible exact Below.refl _ _) | (with_reducible assumption) | (with_reducible refine balloc ?_ _) | (with_reducible refine Below.drew ?_) | (with_reducible refine bset ?_ ?_ _) | (with_reducible refine bstep ?_ (by with_reducible assumption)) | (with_reducible refine bturn ?_ (by with_reducible assumption) ?_) | go_size))⟩
  | true =>
    rw [Bool.not_true] at he4i
    go_enter Tryz.func69, Tryz.ntmps69
    go_wp2_with fail
    go_loopw [17] (fun i wr => ∃ k : Nat, k ≤ L.length ∧ i = .int .i64 (k : Int) ∧ Below w.heap.size w wr ∧ Hid (eqL (L.drop k) (M.drop k) = R)) (fun i _ => L.length - (intOf i).toNat)
    case atStart => exact ⟨0, by omega, rfl, Below.refl _ _, HR⟩
    case round =>
      obtain ⟨k, hkk, rfl, hb, HQ⟩ := hrel
      have hb0 : Below w0.heap.size w0 wr := HB.out.trans (hb.mono (by have := HB.out.size; omega))
      by_cases hlt : k < L.length
      · have hlM : k < M.length := by have := HLM.out (by simp); omega
        obtain ⟨x, hx⟩ : ∃ x, L[k]? = some x := ⟨L[k], List.getElem?_eq_getElem hlt⟩
        obtain ⟨y, hy⟩ : ∃ y, M[k]? = some y := ⟨M[k], List.getElem?_eq_getElem hlM⟩
        have hki : (k : Int) < (L.length : Int) := by omega
        have hki2 : (k : Int) < (M.length : Int) := by omega
        have hkn : IntKind.i64.wrap ((k : Int) + 1) = ((k + 1 : Nat) : Int) := by rw [IntWalk.i64_in _ (by omega)]; omega
        obtain ⟨g, off, ko, kk', kn, ks, kq, km, kr, kB, kl, kc, rfl, hxm, q0, q1, q2, q3, q4, q5, q6, q7⟩ := HK.out.get k x hx
        obtain ⟨g2, off2, jo, jk', jn, js, jq, jm, jr, jB, jl, jc, rfl, hym, p0, p1, p2, p3, p4, p5, p6, p7⟩ := HK'.out.get k y hy
        replace q0 := keep1 hb0 q0
        replace q1 := keep1 hb0 q1
        replace q2 := keep1 hb0 q2
        replace q3 := keep1 hb0 q3
        replace q4 := keep1 hb0 q4
        replace q5 := keep1 hb0 q5
        replace q6 := keep1 hb0 q6
        replace q7 := keep1 hb0 q7
        have P := Lib.hid (And.intro p0 (And.intro p1 (And.intro p2 (And.intro p3 (And.intro p4 (And.intro p5 (And.intro p6 p7)))))))
        have KC : Hid (∀ W, Below w0.heap.size w0 W → Calls Tryz.prog 33 #[.agg #[.int .i64 ko, .int .i64 kk', .int .i64 kn, .int .i64 ks, .string kq, .int .i64 km, .string kr, .slice kB kl kc], .agg #[.int .i64 jo, .int .i64 jk', .int .i64 jn, .int .i64 js, .string jq, .int .i64 jm, .string jr, .slice jB jl jc]] W fun e w' => e = .returned (.bool (eqE x y)) ∧ Below W.heap.size W w') := Lib.hid fun W hW =>
          HKK.out x (List.mem_of_getElem? hx) y _ _ W hxm hym hW
        have hq := HQ.out
        rw [eqL_at hx hy] at hq
        obtain ⟨b, hbb⟩ : ∃ b, eqE x y = b := ⟨_, rfl⟩
        rw [hbb] at KC hq
        have HQ2 := Lib.hid hq
        clear hx hy hxm hym hq hbb HQ p0 p1 p2 p3 p4 p5 p6 p7
        have kA : Blk (wr.alloc (.cells #[.int .i64 0, .int .i64 0, .int .i64 0, .int .i64 0, .string ⟨#[]⟩, .int .i64 0, .string ⟨#[]⟩, .slice none 0 0] 33)) wr.heap.size 33 #[.int .i64 0, .int .i64 0, .int .i64 0, .int .i64 0, .string ⟨#[]⟩, .int .i64 0, .string ⟨#[]⟩, .slice none 0 0] := Blk.new _ _ _
        go_upto_region 6 with (refine wpList_store_blk kA rfl _ _ _ (by rfl) _ (by rfl) (by rfl) (by (repeat (first | (with_reducible exact kA) | (with_reducible refine Blk.alloc ?_ _) | (with_reducible refine Blk.drew ?_) | (with_reducible refine Blk.far ?_ (by first | (simp; done) | (simp; omega)) _) | (with_reducible refine Blk.turn ?_ (by with_reducible assumption) (by omega))))) (by rfl) (by kernel_rfl) (by simp [Value.oneCell']) ?_; intro wt kAn ht)
        have hb2 : Below wr.heap.size wr wt := bturn (balloc (Below.refl _ _) _) ht (Nat.le_refl _)
        have kA2 := Lib.hid kAn
        have hz2 : wr.heap.size < wt.heap.size := kAn.lt
        have hb02 : Below w0.heap.size w0 wt := bstep hb0 hb2
        obtain ⟨p0, p1, p2, p3, p4, p5, p6, p7⟩ := P.out
        replace p0 := keep1 hb02 p0
        replace p1 := keep1 hb02 p1
        replace p2 := keep1 hb02 p2
        replace p3 := keep1 hb02 p3
        replace p4 := keep1 hb02 p4
        replace p5 := keep1 hb02 p5
        replace p6 := keep1 hb02 p6
        replace p7 := keep1 hb02 p7
        obtain ⟨w2, hw2⟩ : ∃ x, x = wt := ⟨_, rfl⟩
        have hb3 : Below w.heap.size w wt := bstep hb hb2
        clear q0 q1 q2 q3 q4 q5 q6 q7 kA kAn ht hb2
        subst hw2
        have kB2 : Blk (w2.alloc (.cells #[.int .i64 0, .int .i64 0, .int .i64 0, .int .i64 0, .string ⟨#[]⟩, .int .i64 0, .string ⟨#[]⟩, .slice none 0 0] 33)) w2.heap.size 33 #[.int .i64 0, .int .i64 0, .int .i64 0, .int .i64 0, .string ⟨#[]⟩, .int .i64 0, .string ⟨#[]⟩, .slice none 0 0] := Blk.new _ _ _
        go_upto_region 7 with (refine wpList_store_blk kB2 rfl _ _ _ (by rfl) _ (by rfl) (by rfl) (by (repeat (first | (with_reducible exact kB2) | (with_reducible refine Blk.alloc ?_ _) | (with_reducible refine Blk.drew ?_) | (with_reducible refine Blk.far ?_ (by first | (simp; done) | (simp; omega)) _) | (with_reducible refine Blk.turn ?_ (by with_reducible assumption) (by omega))))) (by rfl) (by kernel_rfl) (by simp [Value.oneCell']) ?_; intro wt kB2n ht)
        have hb4 : Below w2.heap.size w2 wt := bturn (balloc (Below.refl _ _) _) ht (Nat.le_refl _)
        have kA4 := kA2.out.step hb4
        have hb04 : Below w0.heap.size w0 wt := bstep hb02 hb4
        have hb5 : Below w.heap.size w wt := bstep hb3 hb4
        clear p0 p1 p2 p3 p4 p5 p6 p7 kB2 ht hb4
        have hlx := kA4.lt; have hllx := lts hlx; have qx0 := kA4.cell 0; have qx1 := kA4.cell 1; have qx2 := kA4.cell 2; have qx3 := kA4.cell 3; have qx4 := kA4.cell 4; have qx5 := kA4.cell 5; have qx6 := kA4.cell 6; have qx7 := kA4.cell 7; simp at qx0 qx1 qx2 qx3 qx4 qx5 qx6 qx7; have zx0 := kA4.frozen 0; have zx1 := kA4.frozen 1; have zx2 := kA4.frozen 2; have zx3 := kA4.frozen 3; have zx4 := kA4.frozen 4; have zx5 := kA4.frozen 5; have zx6 := kA4.frozen 6; have zx7 := kA4.frozen 7; have HkA4 := Lib.hid kA4; clear kA4
        have hly := kB2n.lt; have hlly := lts hly; have qy0 := kB2n.cell 0; have qy1 := kB2n.cell 1; have qy2 := kB2n.cell 2; have qy3 := kB2n.cell 3; have qy4 := kB2n.cell 4; have qy5 := kB2n.cell 5; have qy6 := kB2n.cell 6; have qy7 := kB2n.cell 7; simp at qy0 qy1 qy2 qy3 qy4 qy5 qy6 qy7; have zy0 := kB2n.frozen 0; have zy1 := kB2n.frozen 1; have zy2 := kB2n.frozen 2; have zy3 := kB2n.frozen 3; have zy4 := kB2n.frozen 4; have zy5 := kB2n.frozen 5; have zy6 := kB2n.frozen 6; have zy7 := kB2n.frozen 7; have HkB2n := Lib.hid kB2n; clear kB2n
        go_wp2_with fail
        refine (KC.out _ hb04).mono ?_
        rintro e w6 ⟨rfl, hb6⟩
        clear qx0 qx1 qx2 qx3 qx4 qx5 qx6 qx7 zx0 zx1 zx2 zx3 zx4 zx5 zx6 zx7 hlx hllx qy0 qy1 qy2 qy3 qy4 qy5 qy6 qy7 zy0 zy1 zy2 zy3 zy4 zy5 zy6 zy7 hly hlly
        cases b with
        | false =>
          go_wp2_with fail
          go_returns
          exact ⟨by rw [← HQ2.out]; simp, by (repeat' (first | (with_reducible exact Below.refl _ _) | (with_reducible assumption) | (with_reducible refine balloc ?_ _) | (with_reducible refine Below.drew ?_) | (with_reducible refine bset ?_ ?_ _) | (with_reducible refine bstep ?_ (by with_reducible assumption)) | (with_reducible refine bturn ?_ (by with_reducible assumption) ?_) | go_size))⟩
        | true =>
          have hq := HQ2.out
          rw [if_pos rfl] at hq
          have HQ3 := Lib.hid hq
          clear hq HQ2
          go_wp2_with fail
          go_roundw
          case rel => exact ⟨k + 1, by omega, by go_num, by (repeat' (first | (with_reducible exact Below.refl _ _) | (with_reducible assumption) | (with_reducible refine balloc ?_ _) | (with_reducible refine Below.drew ?_) | (with_reducible refine bset ?_ ?_ _) | (with_reducible refine bstep ?_ (by with_reducible assumption)) | (with_reducible refine bturn ?_ (by with_reducible assumption) ?_) | go_size)), HQ3⟩
          case measure => simp [intOf]; omega
      · obtain rfl : k = L.length := by omega
        have hq := HQ.out
        rw [List.drop_length, eqL] at hq
        have HQ3 := Lib.hid hq
        clear hlt HQ hq
        go_wp2_with fail
        go_returns
        exact ⟨by rw [← HQ3.out]; rfl, hb⟩
set_option maxHeartbeats 8000000 in
set_option maxRecDepth 100000 in
theorem same_node (o vk vn vs vm : Int) (q r : ByteArray) (A : Option Addr) (c n : Nat) (o' vk' vn' vs' vm' : Int) (q' r' : ByteArray) (A' : Option Addr) (c' n' : Nat) (w : World) (e1 e2 e3 F : Bool) (he1 : (o == o') = e1) (he2 : (r.toList == r'.toList) = e2) (he3 : vlq vk vn vs q vm vk' vn' vs' q' vm' = e3)
    (KE : Hid (∀ W, Below w.heap.size w W → Calls Tryz.prog 69 #[.slice A n c, .slice A' n' c', .func (.func 33) #[] #[]] W fun e w' => e = .returned (.bool F) ∧ Below W.heap.size W w')) :
    Calls Tryz.prog 33 #[.agg #[.int .i64 o, .int .i64 vk, .int .i64 vn, .int .i64 vs, .string q, .int .i64 vm, .string r, .slice A n c], .agg #[.int .i64 o', .int .i64 vk', .int .i64 vn', .int .i64 vs', .string q', .int .i64 vm', .string r', .slice A' n' c']] w fun e w' => e = .returned (.bool ((e1 && (e2 && e3)) && F)) ∧ Below w.heap.size w w' := by
  cases e1 with
  | false =>
    go_enter Tryz.func33, Tryz.ntmps33
    go_wp2_with fail
    go_returns
    exact ⟨rfl, by (repeat' (first | (with_reducible exact Below.refl _ _) | (with_reducible assumption) | (with_reducible refine balloc ?_ _) | (with_reducible refine Below.drew ?_) | (with_reducible refine bset ?_ ?_ _) | (with_reducible refine bstep ?_ (by with_reducible assumption)) | (with_reducible refine bturn ?_ (by with_reducible assumption) ?_) | go_size))⟩
  | true =>
    cases e3 with
    | false =>
      go_enter Tryz.func33, Tryz.ntmps33
      go_wp2_with fail
      go_returns
      exact ⟨by cases e2 <;> rfl, by (repeat' (first | (with_reducible exact Below.refl _ _) | (with_reducible assumption) | (with_reducible refine balloc ?_ _) | (with_reducible refine Below.drew ?_) | (with_reducible refine bset ?_ ?_ _) | (with_reducible refine bstep ?_ (by with_reducible assumption)) | (with_reducible refine bturn ?_ (by with_reducible assumption) ?_) | go_size))⟩
    | true =>
      cases e2 with
      | false =>
        go_enter Tryz.func33, Tryz.ntmps33
        go_wp2_with fail
        go_returns
        exact ⟨rfl, by (repeat' (first | (with_reducible exact Below.refl _ _) | (with_reducible assumption) | (with_reducible refine balloc ?_ _) | (with_reducible refine Below.drew ?_) | (with_reducible refine bset ?_ ?_ _) | (with_reducible refine bstep ?_ (by with_reducible assumption)) | (with_reducible refine bturn ?_ (by with_reducible assumption) ?_) | go_size))⟩
      | true =>
        go_enter Tryz.func33, Tryz.ntmps33
        go_wp2_with fail
        refine (KE.out _ (by (repeat' (first | (with_reducible exact Below.refl _ _) | (with_reducible assumption) | (with_reducible refine balloc ?_ _) | (with_reducible refine Below.drew ?_) | (with_reducible refine bset ?_ ?_ _) | (with_reducible refine bstep ?_ (by with_reducible assumption)) | (with_reducible refine bturn ?_ (by with_reducible assumption) ?_) | go_size)))).mono ?_
        rintro e w1 ⟨rfl, hb1⟩
        go_wp2_with fail
        go_returns
        exact ⟨by simp, by (repeat' (first | (with_reducible exact Below.refl _ _) | (with_reducible assumption) | (with_reducible refine balloc ?_ _) | (with_reducible refine Below.drew ?_) | (with_reducible refine bset ?_ ?_ _) | (with_reducible refine bstep ?_ (by with_reducible assumption)) | (with_reducible refine bturn ?_ (by with_reducible assumption) ?_) | go_size))⟩
theorem same_all (w0 : World) : ∀ x, SameC w0 x := by
  intro x
  induction x using ex_ind with
  | h o v s kids ih =>
    intro y cs ds w hx hy hb
    obtain ⟨o', v', s', kids'⟩ := y
    obtain ⟨A, c, rfl, hk⟩ := hx.kd
    obtain ⟨A', c', rfl, hk'⟩ := hy.kd
    refine (same_node o v.k v.n v.s v.m (bs v.t) (bs s) A c kids.length o' v'.k v'.n v'.s v'.m (bs v'.t) (bs s') A' c' kids'.length w _ _ _ _ rfl rfl rfl (Lib.hid fun W hW => eqf_walk A c kids A' c' kids' w0 W hk hk' (bstep hb hW) _ rfl fun k hkm => ih k hkm)).mono ?_
    rintro e w' ⟨rfl, h⟩
    refine ⟨?_, h⟩
    rw [eqE, vlq_eq, bs_toList, bs_toList]
    congr 2
    simp only [Bool.and_assoc]
end Go.Proofs.YtkkeplmaphcblaaGreatDoor
