/- The walk of expr.Parser's chain. -/
import Derived.Test.YtapilekangmcoaaGreatDoorN23
set_option linter.unusedVariables false
set_option linter.unusedSimpArgs false
set_option maxHeartbeats 8000000
set_option maxRecDepth 100000
namespace Go.Proofs.YtapilekangmcoaaGreatDoor
open Go.RowKit
theorem LV.gr {w w' : World} {b g n gs gi : Nat} (h : LV w g n gs gi) (k : Gr b w w') (h1 : g ≠ b) (h2 : gs ≠ b) (h3 : gi ≠ b) : LV w' g n gs gi := h.keep fun a v ha hb => by
 have hn : a.block ≠ b := by rcases hb with e | e | e <;> rw [e] <;> assumption
 exact (World.cell?_of_block (k.block _ (block_lt_of_cell ha) hn)).trans ha
theorem LV.turn {w w' : World} {B g n gs gi : Nat} (h : LV w g n gs gi) (k : Turned w w' B) (h1 : g ≠ B) (h2 : gs ≠ B) (h3 : gi ≠ B) : LV w' g n gs gi := h.keep fun a v ha hb => by
 have hn : a.block ≠ B := by rcases hb with e | e | e <;> rw [e] <;> assumption
 exact (World.cell?_of_block (k.block _ hn)).trans ha
theorem LV.step {w w' : World} {g n gs gi : Nat} (h : LV w g n gs gi) (k : Below w.heap.size w w') : LV w' g n gs gi := h.keep fun _ _ ha _ => keep1 k ha
theorem LV.lt {w : World} {g n gs gi : Nat} (h : LV w g n gs gi) (hn : n ≤ 4) : g < w.heap.size ∧ gs < w.heap.size ∧ gi < w.heap.size := by
 have h0 : ∃ q, (levelS n).1[0]? = some q := by
   match n, hn with
   | 0, _ => exact ⟨_, rfl⟩
   | 1, _ => exact ⟨_, rfl⟩
   | 2, _ => exact ⟨_, rfl⟩
   | 3, _ => exact ⟨_, rfl⟩
   | 4, _ => exact ⟨_, rfl⟩
 obtain ⟨q, hq⟩ := h0
 exact ⟨block_lt_of_cell h.c0, block_lt_of_cell (h.ss 0 q.1 (by rw [List.getElem?_map, hq]; rfl)), block_lt_of_cell (h.is 0 q hq)⟩
set_option maxHeartbeats 4000000 in
theorem chain_5 (b : Nat) (A : Option Addr) (c : Nat) (p : PS) (r : Ex × PS) (d : Nat) (w : World) (h : PB w b A c p) (hr : r.2.L = p.L)
   (KP : Hid (∀ W, PB W b A c p → Calls Tryz.prog 76 #[.pointer (some ⟨b, 0, none⟩), .int .i64 (d : Int)] W fun e w' => EOut b A c W w' r e)) :
   Calls Tryz.prog 48 #[.pointer (some ⟨b, 0, none⟩), .int .i64 (d : Int), .int .i64 5] w fun e w' => EOut b A c w w' r e := by
 have hlw := h.blk.lt
 have k0 : Blk (w.alloc (.cells #[.int .i64 0, .int .i64 0, .int .i64 0, .int .i64 0, .string ⟨#[]⟩, .int .i64 0, .string ⟨#[]⟩, .slice none 0 0] 33)) w.heap.size 33 #[.int .i64 0, .int .i64 0, .int .i64 0, .int .i64 0, .string ⟨#[]⟩, .int .i64 0, .string ⟨#[]⟩, .slice none 0 0] := Blk.new _ _ _
 have hA : Below w.heap.size w (w.alloc (.cells #[.int .i64 0, .int .i64 0, .int .i64 0, .int .i64 0, .string ⟨#[]⟩, .int .i64 0, .string ⟨#[]⟩, .slice none 0 0] 33)) := by (repeat' first | (with_reducible first | exact .refl _ _ | assumption | apply balloc | apply Below.drew | apply bset | refine bstep ?_ ‹_› | refine bturn ?_ ‹_› ?_) | go_size)
 have h1 := h.step hA
 have hs1 : (w.alloc (.cells #[.int .i64 0, .int .i64 0, .int .i64 0, .int .i64 0, .string ⟨#[]⟩, .int .i64 0, .string ⟨#[]⟩, .slice none 0 0] 33)).heap.size = w.heap.size + 1 := by simp
 have H := Lib.hid h
 have HR := Lib.hid hr
 clear h hr
 go_enter Tryz.func48, Tryz.ntmps48
 go_upto_region 1 with fail
 generalize (w.alloc (.cells #[.int .i64 0, .int .i64 0, .int .i64 0, .int .i64 0, .string ⟨#[]⟩, .int .i64 0, .string ⟨#[]⟩, .slice none 0 0] 33)) = w1 at *
 go_wp2_with fail
 refine (levels_any w1).mono ?_
 rintro e w2 ⟨⟨g, rfl, hLV⟩, hb2⟩
 have hz2 := hb2.size
 have k2 := Lib.hid (k0.step hb2)
 have h2 := h1.step hb2
 have G2 := Lib.hid (Gr.of (bstep hA hb2) : Gr b w w2)
 clear k0 h1 hb2 hLV hA
 go_wp2_with fail
 refine (KP.out _ h2).mono ?_
 rintro e w3 ⟨⟨cs, rfl, hx⟩, h3, g3⟩
 have hx2 : XM (fun g => w.heap.size + 1 ≤ g) w3 r.1 cs := hx.mono fun g hg _ => by omega
 have k3 := k2.out.gr g3 (by omega)
 obtain ⟨o, k, n, s, q2, m, r2, B, l, cc, rfl⟩ := hx.cells
 go_wp2_with (refine wpList_store_blk k3 rfl _ _ _ (by rfl) _ (by rfl) (by rfl) (by repeat first | with_reducible first | exact k3 | apply Blk.alloc | apply Blk.drew | refine Blk.far ?_ (by simp <;> omega) _ | refine Blk.turn ?_ ‹_› (by omega)) (by rfl) (by kernel_rfl) (by simp [Value.oneCell']) ?_; intro wt k3n ht)
 refine ret_blk rfl k3n rfl Tryz.underlying33 rfl (by kernel_rfl) rfl ?_
 exact ⟨⟨_, rfl, (hx2.turn ht fun g hg => by omega).mono fun g hg _ => by omega⟩, H.out.turnF HR.out.symm h3 ht (Nat.le_refl _), Gr.turnFar (G2.out.trans g3) ht (Nat.le_refl _)⟩
/-- How far a parser in memory has come. -/
def nxOf (w : World) (b : Nat) : Nat := match w.cell? ⟨b, 1, none⟩ with | some (.int _ n) => n.toNat | _ => 0
theorem nxOf_eq {w : World} {b : Nat} {A : Option Addr} {c : Nat} {p : PS} (h : PB w b A c p) : nxOf w b = p.nx := by
 unfold nxOf
 rw [h.blk.cell 1]
 rfl
theorem more_stop {j : Nat} {x : Ex} {q : PS} {d n : Nat} (h : ¬ q.e = 0 ∨ q.oper n = none) : moreF wordB j x q d n = (x, q) := by
 cases j with
 | zero => rw [moreF]
 | succ j =>
   rw [moreF]
   split
   · rename_i he
     rcases h with h | h
     · exact absurd he h
     · rw [h]
   · rfl
theorem more_go {j : Nat} {x : Ex} {q : PS} {d n : Nat} {o : Int} (he : q.e = 0) (ho : q.oper n = some o) :
   moreF wordB (j + 1) x q d n = if (levelS n).2 = true then (.mk o zeroV [] [x, (chainF wordB j q.adv d (n + 1)).1], (chainF wordB j q.adv d (n + 1)).2.made) else moreF wordB j (.mk o zeroV [] [x, (chainF wordB j q.adv d (n + 1)).1]) (chainF wordB j q.adv d (n + 1)).2.made d n := by
 rw [moreF, if_pos he, ho]
set_option maxHeartbeats 16000000 in
theorem chain_lo (f : Nat) (HC : Hid (∀ j, j ≤ f → ChainC j)) (b : Nat) (A : Option Addr) (c : Nat) (p : PS) (d n n1 k : Nat) (w : World) (h : PB w b A c p) (hR : Rm 0 k p) (hn : n ≤ 4) (hn1 : n1 = n + 1) (hf : 8 * k + 7 ≤ f + 1 + n) (hd : d + k ≤ 200000) :
   Calls Tryz.prog 48 #[.pointer (some ⟨b, 0, none⟩), .int .i64 (d : Int), .int .i64 (n : Int)] w fun e w' => EOut b A c w w' (chainF wordB (f + 1) p d n) e := by
 obtain ⟨X, hX⟩ : ∃ X, chainF wordB (f + 1) p d n = X := ⟨_, rfl⟩
 have hX2 : moreF wordB f (chainF wordB f p d n1).1 (chainF wordB f p d n1).2 d n = X := by
   rw [← hX, chainF, if_neg (by omega), hn1]
 have hR0 : Rm 0 k (chainF wordB f p d n1).2 := hR.chain f d n1
 have hL0 : (chainF wordB f p d n1).2.L = p.L := ((fw_all wordB f).2.1 p d n1).L
 have KC0 := Lib.hid (fun (W : World) (h : PB W b A c p) => HC.out f (Nat.le_refl _) b A c p d n1 k W h hR (by omega) (by omega) hd)
 obtain ⟨⟨x0, q0⟩, hr0⟩ : ∃ r, chainF wordB f p d n1 = r := ⟨_, rfl⟩
 rw [hr0] at hX2 hR0 hL0 KC0
 rw [hX]
 have HX := Lib.hid hX2
 have HR0 := Lib.hid hR0
 have HL0 : Hid (q0.L = p.L) := Lib.hid hL0
 have hlw := h.blk.lt
 have k0 : Blk (w.alloc (.cells #[.int .i64 0, .int .i64 0, .int .i64 0, .int .i64 0, .string ⟨#[]⟩, .int .i64 0, .string ⟨#[]⟩, .slice none 0 0] 33)) w.heap.size 33 #[.int .i64 0, .int .i64 0, .int .i64 0, .int .i64 0, .string ⟨#[]⟩, .int .i64 0, .string ⟨#[]⟩, .slice none 0 0] := Blk.new _ _ _
 have hA : Below w.heap.size w (w.alloc (.cells #[.int .i64 0, .int .i64 0, .int .i64 0, .int .i64 0, .string ⟨#[]⟩, .int .i64 0, .string ⟨#[]⟩, .slice none 0 0] 33)) := by (repeat' first | (with_reducible first | exact .refl _ _ | assumption | apply balloc | apply Below.drew | apply bset | refine bstep ?_ ‹_› | refine bturn ?_ ‹_› ?_) | go_size)
 have h1 := h.step hA
 have hs1 : (w.alloc (.cells #[.int .i64 0, .int .i64 0, .int .i64 0, .int .i64 0, .string ⟨#[]⟩, .int .i64 0, .string ⟨#[]⟩, .slice none 0 0] 33)).heap.size = w.heap.size + 1 := by simp
 have H := Lib.hid h
 have hni : ¬ (4 : Int) < (n : Int) := by omega
 have hni5 : (n : Int) < 5 := by omega
 have hnx : IntKind.i64.wrap ((n : Int) + 1) = (n1 : Int) := by rw [IntWalk.i64_in _ (by omega)]; omega
 have HD := Lib.hid (And.intro hn (And.intro hf hd))
 have HN1 := Lib.hid hn1
 clear h hX hX2 hR0 hL0 hr0 hR hn hn1 hf hd
 go_enter Tryz.func48, Tryz.ntmps48
 go_upto_region 1 with fail
 generalize (w.alloc (.cells #[.int .i64 0, .int .i64 0, .int .i64 0, .int .i64 0, .string ⟨#[]⟩, .int .i64 0, .string ⟨#[]⟩, .slice none 0 0] 33)) = w1 at *
 go_wp2_with fail
 refine (levels_any w1).mono ?_
 rintro e w2 ⟨⟨g, rfl, hg1, hLV⟩, hb2⟩
 obtain ⟨gs, gi, hgs, hgi, hLV⟩ := hLV n HD.out.1
 have hz2 := hb2.size
 have k2 := Lib.hid (k0.step hb2)
 have h2 := h1.step hb2
 have G2 := Lib.hid (Gr.of (bstep hA hb2) : Gr b w w2)
 obtain ⟨hgl, hgsl, hgil⟩ := hLV.lt HD.out.1
 have LV2 := Lib.hid hLV
 clear k0 h1 hb2 hLV hA
 go_wp2_with fail
 refine (KC0.out _ h2).mono ?_
 rintro e w3 ⟨⟨cs, rfl, hx⟩, h3, g3⟩
 have hz3 := g3.size
 have k3 := k2.out.gr g3 (by omega)
 have G3 := Lib.hid (G2.out.trans g3)
 have LV3 := Lib.hid (LV2.out.gr g3 (by omega) (by omega) (by omega))
 obtain ⟨o, ek, en, s, q2, m, r2, B, l, cc, rfl⟩ := hx.cells
 have X3 := Lib.hid (hx.top (Nat.le_refl _))
 have kx : Blk (w3.alloc (.cells #[.int .i64 0, .int .i64 0, .int .i64 0, .int .i64 0, .string ⟨#[]⟩, .int .i64 0, .string ⟨#[]⟩, .slice none 0 0] 33)) w3.heap.size 33 #[.int .i64 0, .int .i64 0, .int .i64 0, .int .i64 0, .string ⟨#[]⟩, .int .i64 0, .string ⟨#[]⟩, .slice none 0 0] := Blk.new _ _ _
 have HP3 := Lib.hid h3
 clear hx h3 h2 g3 G2 k2 LV2 KC0
 go_wp2_with (refine wpList_store_blk kx rfl _ _ _ (by rfl) _ (by rfl) (by rfl) (by repeat first | with_reducible first | exact kx | apply Blk.alloc | apply Blk.drew | refine Blk.far ?_ (by simp <;> omega) _ | refine Blk.turn ?_ ‹_› (by omega)) (by rfl) (by kernel_rfl) (by simp [Value.oneCell']) ?_; intro wt kxn ht)
 rw [put_none]
 have hb4 : Below w3.heap.size w3 wt := bturn (balloc (Below.refl _ _) _) ht (Nat.le_refl _)
 have k4 := k3.step hb4
 have hz4 : w3.heap.size < wt.heap.size := kxn.lt
 have h4 := HP3.out.step hb4
 have G4 := G3.out.bstep hb4
 have LV4 := LV3.out.step hb4
 have X4 := X3.out.step hb4
 clear k3 kx HP3 G3 LV3 X3 hb4 ht
 go_loopw [9] (fun _ wr => ∃ (j m : Nat) (x : Ex) (q : PS) (cs : Array Value), Hid (moreF wordB j x q d n = X ∧ Rm 0 m q ∧ q.L = p.L ∧ 8 * m + 6 ≤ j + n ∧ m ≤ k ∧ j ≤ f) ∧ Blk wr w3.heap.size 33 cs ∧ Blk wr w.heap.size 33 #[.int .i64 0, .int .i64 0, .int .i64 0, .int .i64 0, .string ⟨#[]⟩, .int .i64 0, .string ⟨#[]⟩, .slice none 0 0] ∧ XM (fun g => w.heap.size + 1 ≤ g ∧ g ≠ w3.heap.size) wr x cs ∧ PB wr b A c q ∧ Gr b w wr ∧ LV wr g n gs gi ∧ w3.heap.size < wr.heap.size) (fun _ wr => p.L.length - nxOf wr b)
 case atStart => exact ⟨f, k, x0, q0, _, Lib.hid ⟨HX.out, HR0.out, HL0.out, by have := HD.out.2.1; omega, Nat.le_refl _, Nat.le_refl _⟩, kxn, k4, X4.mono (fun g hg _ => by omega), h4, G4, LV4, hz4⟩
 case round =>
   obtain ⟨j, m, x, q, cs, HQ, kx, k6, hx, hp, gr, hLV, hzr⟩ := hrel
   obtain ⟨o, ek, en, s, y, mm, r2, B, l, cc, rfl⟩ := hx.cells
   clear kxn k4 X4 h4 G4 LV4 hz4
   have HXM := Lib.hid hx
   have HP := Lib.hid hp
   have HG := Lib.hid gr
   have HLV := Lib.hid hLV
   have HKX := Lib.hid kx
   have HK6 := Lib.hid k6
   by_cases he : q.e = 0
   · obtain ⟨N, hN⟩ : ∃ N, (levelS n).1.length = N := ⟨_, rfl⟩
     have KI : Hid (∀ W, Below wr.heap.size wr W → Calls Tryz.prog 77 #[.slice (some ⟨gs, 0, none⟩) N N, .func (.func 74) #[.pointer (some ⟨b, 0, none⟩)] #[]] W fun e w' => (∃ r : Int, e = .returned (.int .i64 r) ∧ fndR q ((levelS n).1.map (·.1)) r) ∧ Below W.heap.size W w') := Lib.hid fun W hb => by
       have := find_walk b A c q gs ((levelS n).1.map (·.1)) (by
         rw [List.length_map]
         have := HD.out.1
         match n, this with
         | 0, _ => decide
         | 1, _ => decide
         | 2, _ => decide
         | 3, _ => decide
         | 4, _ => decide) W (HP.out.step hb) (HLV.out.ss.step hb)
       rw [List.length_map, hN] at this
       exact this
     have c0 := hLV.c0
     rw [hN] at c0
     cases ho : q.oper n with
     | none =>
       have hres : (x, q) = X := (more_stop (.inr ho)).symm.trans HQ.out.1
       have HRes := Lib.hid hres
       have HO := Lib.hid ho
       clear hx gr hLV hres kx k6 ho hN
       have hbp := (hp).blk; obtain ⟨hlp, hllp, qp0, qp1, qp2, qp3, qp4, qp5, zp0, zp1, zp2, zp3, zp4, zp5⟩ := bf6 hbp; (try simp at qp0 qp1 qp2 qp3 qp4 qp5); have Hhbp := Lib.hid hbp; clear hbp
       rw [he] at qp4
       clear hp he
       go_wp2_with fail
       refine (KI.out _ (Below.refl _ _)).mono ?_
       rintro e w5 ⟨⟨r, rfl, hfr⟩, hb5⟩
       have hneg : r < 0 := by
         rcases find_oper hfr with ⟨h, _⟩ | ⟨_, _, _, _, _, h⟩
         · exact h
         · rw [HO.out] at h; cases h
       have kx := HKX.out.step hb5
       have k6 := HK6.out.step hb5
       have hx5 := Lib.hid (HXM.out.step hb5)
       have hp5 := Lib.hid (HP.out.step hb5)
       have g5 := Lib.hid (HG.out.bstep hb5)
       clear c0 hfr
       clear qp0 zp0 qp1 zp1 qp2 zp2 qp3 zp3 qp4 zp4 qp5 zp5 hlp hllp Hhbp
       go_wp2_with (first | (refine wpList_load_blk kx rfl _ _ (by rfl) (by rfl) (by (repeat first | with_reducible first | exact kx | apply Blk.alloc | apply Blk.drew | refine Blk.far ?_ (by simp <;> omega) _ | refine Blk.turn ?_ ‹_› (by omega))) _ Tryz.underlying33 rfl (by kernel_rfl) ?_) | (refine wpList_store_blk k6 rfl _ _ _ (by rfl) _ (by rfl) (by rfl) (by repeat first | with_reducible first | exact k6 | apply Blk.alloc | apply Blk.drew | refine Blk.far ?_ (by simp <;> omega) _ | refine Blk.turn ?_ ‹_› (by omega)) (by rfl) (by kernel_rfl) (by simp [Value.oneCell']) ?_; intro wt k6n ht))
       refine ret_blk rfl k6n rfl Tryz.underlying33 rfl (by kernel_rfl) rfl ?_
       have hr := HRes.out
       subst hr
       exact ⟨⟨_, rfl, (hx5.out.turn ht fun g hg => by omega).mono fun g hg _ => by omega⟩, H.out.turnF HQ.out.2.2.1.symm hp5.out ht (Nat.le_refl _), Gr.turnFar g5.out ht (Nat.le_refl _)⟩
     | some op =>
       obtain ⟨j1, rfl⟩ : ∃ j1, j = j1 + 1 := ⟨j - 1, by have := HQ.out.2.2.2.1; have := HD.out.1; omega⟩
       have hnl := (oper_lt ho).2
       have hm1 : 1 ≤ m := HQ.out.2.1.pos hnl
       have hRa : Rm 1 (m - 1) q.adv := HQ.out.2.1.adv hnl
       obtain ⟨⟨yx, yp⟩, hy⟩ : ∃ y, chainF wordB j1 q.adv d n1 = y := ⟨_, rfl⟩
       have hRy : Rm 1 (m - 1) yp := by have := hRa.chain (W := wordB) j1 d n1; rw [hy] at this; exact this
       have hFy : Fw q.adv yp := by have := (fw_all wordB j1).2.1 q.adv d n1; rw [hy] at this; exact this
       have KC : Hid (∀ W, PB W b A c q.adv → Calls Tryz.prog 48 #[.pointer (some ⟨b, 0, none⟩), .int .i64 (d : Int), .int .i64 (n1 : Int)] W fun e w' => EOut b A c W w' (yx, yp) e) := Lib.hid fun W hW => by
         have := HC.out j1 (by have := HQ.out.2.2.2.2.2; omega) b A c q.adv d n1 (m - 1) W hW hRa.less (by have := HD.out.1; have := HN1.out; omega) (by have := HN1.out; have := HQ.out.2.2.2.1; omega) (by have := HD.out.2.2; have := HQ.out.2.2.2.2.1; omega)
         rw [hy] at this
         exact this
       have hstep : (if (levelS n).2 = true then (.mk op zeroV [] [x, yx], yp.made) else moreF wordB j1 (.mk op zeroV [] [x, yx]) yp.made d n) = X := by
         rw [← HQ.out.1, more_go he ho, ← HN1.out, hy]
       have KM := Lib.hid (fun (B : Option Addr) (n cp : Nat) (W : World) (h : PB W b A c yp) => emake_any b A c yp op B n cp W h hRy.lo (by have := hRy.md; have := hRy.le; have := hRy.big; omega))
       have HS := Lib.hid hstep
       have HNX := Lib.hid (nxOf_eq hp)
       have HY := Lib.hid (And.intro hnl (And.intro hm1 (And.intro hRy hFy)))
       have hyL : yp.made.L = p.L := ((made_L yp).trans hFy.L).trans HQ.out.2.2.1
       have HYL := Lib.hid hyL
       have HO := Lib.hid ho
       have hnw : IntKind.i64.wrap ((q.nx : Int) + 1) = (q.nx : Int) + 1 := IntWalk.i64_in _ (by have := HQ.out.2.1.big; omega)
       clear hx gr hLV kx k6 ho hnl hm1 hRa hy hRy hFy hstep hyL
       have hbp := (hp).blk; obtain ⟨hlp, hllp, qp0, qp1, qp2, qp3, qp4, qp5, zp0, zp1, zp2, zp3, zp4, zp5⟩ := bf6 hbp; (try simp at qp0 qp1 qp2 qp3 qp4 qp5); have Hhbp := Lib.hid hbp; clear hbp
       rw [he] at qp4
       clear hp he
       go_wp2_with fail
       refine (KI.out _ (Below.refl _ _)).mono ?_
       rintro e w5 ⟨⟨r, rfl, hfr⟩, hb5⟩
       obtain ⟨kk, qq, rfl, hqq, hop⟩ : ∃ (kk : Nat) (qq : Bs × Int), r = (kk : Int) ∧ (levelS n).1[kk]? = some qq ∧ qq.2 = op := by
         rcases find_oper hfr with ⟨_, h⟩ | ⟨kk, qq, h1, h2, _, h⟩
         · rw [HO.out] at h; cases h
         · rw [HO.out] at h; injection h with h; exact ⟨kk, qq, h1, h2, h.symm⟩
       have hkN : kk < N := by rw [← hN]; exact (List.getElem?_eq_some_iff.1 hqq).1
       have hkn : ¬ (kk : Int) < 0 := by omega
       have hkl : (kk : Int) < (N : Int) := by omega
       have hz5 := hb5.size
       have HKX5 := Lib.hid (HKX.out.step hb5)
       have HK65 := Lib.hid (HK6.out.step hb5)
       have hx5 := Lib.hid (HXM.out.step hb5)
       have hp5 := HP.out.step hb5
       have HP5 := Lib.hid hp5
       have g5 := Lib.hid (HG.out.bstep hb5)
       have LV5 := Lib.hid (HLV.out.step hb5)
       clear c0 hfr HO HP HG HLV HKX HK6 HXM KI hb5
       clear qp0 zp0 qp1 zp1 qp2 zp2 qp3 zp3 qp4 zp4 qp5 zp5 hlp hllp Hhbp
       have hbp := (hp5).blk; obtain ⟨hlp, hllp, qp0, qp1, qp2, qp3, qp4, qp5, zp0, zp1, zp2, zp3, zp4, zp5⟩ := bf6 hbp; (try simp at qp0 qp1 qp2 qp3 qp4 qp5); have Hhbp := Lib.hid hbp; clear hbp
       clear hp5
       go_upto_region 9 with fail
       have g56 : Gr b w5 (w5.setCell ⟨b, 1, none⟩ (.int .i64 ((q.nx : Int) + 1))) := (Gr.refl _ _).set _ _
       have hp6 := Lib.hid (HP5.out.adv HY.out.1)
       generalize w5.setCell ⟨b, 1, none⟩ (.int .i64 ((q.nx : Int) + 1)) = w6 at *
       clear qp0 zp0 qp1 zp1 qp2 zp2 qp3 zp3 qp4 zp4 qp5 zp5 hlp hllp Hhbp
       have hz6 := g56.size
       have kx6 := HKX5.out.gr g56 (by omega)
       have KX6 := Lib.hid kx6
       have K66 := Lib.hid (HK65.out.gr g56 (by omega))
       have X6 := Lib.hid (hx5.out.gr g56 fun g hg => by omega)
       have G6 := Lib.hid (g5.out.trans g56)
       have LV6 := Lib.hid (LV5.out.gr g56 (by omega) (by omega) (by omega))
       have c1 := LV6.out.c1
       have ci := LV6.out.is kk qq hqq
       rw [hN] at c1
       rw [hop] at ci
       have HQQ := Lib.hid hqq
       have HOP := Lib.hid hop
       clear HKX5 HK65 hx5 g5 LV5 g56 HP5 hqq hop
       obtain ⟨hlu, hllu, qu0, qu1, qu2, qu3, qu4, qu5, qu6, qu7, zu0, zu1, zu2, zu3, zu4, zu5, zu6, zu7⟩ := bf8 kx6; (try simp at qu0 qu1 qu2 qu3 qu4 qu5 qu6 qu7); have Hkx6 := Lib.hid kx6; clear kx6
       go_cut [8] (fun z wx => z = .pointer (some ⟨w3.heap.size, 0, none⟩) ∧ ∃ cs, Blk wx w3.heap.size 33 cs ∧ Blk wx w.heap.size 33 #[.int .i64 0, .int .i64 0, .int .i64 0, .int .i64 0, .string ⟨#[]⟩, .int .i64 0, .string ⟨#[]⟩, .slice none 0 0] ∧ XM (fun g => w.heap.size + 1 ≤ g ∧ g ≠ w3.heap.size) wx (.mk op zeroV [] [x, yx]) cs ∧ PB wx b A c yp.made ∧ Gr b w wx ∧ LV wx g n gs gi ∧ w3.heap.size < wx.heap.size)
       case first =>
         go_region_with (first
           | (go_at_call 48; refine (KC.out _ (by first | exact hp6.out | exact hp6.out.nodrew | exact hp6.out.drewN _)).mono ?_; rintro e w9 ⟨⟨cs3, rfl, hx3⟩, h9, g9'⟩; have g9 : Gr b w6 w9 := ⟨g9'.os, g9'.tape, g9'.output, g9'.size, g9'.block⟩; have hs3 : XM (fun g => w6.heap.size ≤ g) w9 yx cs3 := hx3; clear g9' hx3; have hz9 := g9.size; have kx9 := KX6.out.gr g9 (by omega); have KX9 := Lib.hid kx9; obtain ⟨o3, ek3, n3, s3, y3, m3, z3, B3, l3, c3, rfl⟩ := hs3.cells; have X3 := Lib.hid hs3; have KH := Lib.hid h9; have KG := Lib.hid g9; have k9 := Lib.hid (K66.out.gr g9 (by omega)); have X9 := Lib.hid (X6.out.gr g9 fun g hg => by omega); have LV9 := Lib.hid (LV6.out.gr g9 (by omega) (by omega) (by omega)); have c19 := LV9.out.c1; have ci9 := LV9.out.is kk qq HQQ.out; rw [hN] at c19; rw [HOP.out] at ci9; have hgl9 : g < w9.heap.size := block_lt_of_cell c19; have hgil9 : gi < w9.heap.size := block_lt_of_cell ci9; have hll9 := lts hgl9; have hlli9 := lts hgil9; clear hs3 h9 g9; obtain ⟨hla, hlla, qa0, qa1, qa2, qa3, qa4, qa5, qa6, qa7, za0, za1, za2, za3, za4, za5, za6, za7⟩ := bf8 kx9; (try simp at qa0 qa1 qa2 qa3 qa4 qa5 qa6 qa7); have Hkx9 := Lib.hid kx9; clear kx9)
           | (go_at_call 50; refine (KM.out _ _ _ _ (KH.out.step (by (repeat' first | (with_reducible first | exact .refl _ _ | assumption | apply balloc | apply Below.drew | apply bset | refine bstep ?_ ‹_› | refine bturn ?_ ‹_› ?_) | go_size)))).mono ?_; rintro e wm ⟨rfl, hm, gm⟩; have KK := Lib.hid ((Blk.new w9 33 #[.int .i64 o, .int .i64 ek, .int .i64 en, .int .i64 s, .string y, .int .i64 mm, .string r2, .slice B l cc, .int .i64 o3, .int .i64 ek3, .int .i64 n3, .int .i64 s3, .string y3, .int .i64 m3, .string z3, .slice B3 l3 c3]).gr gm (by omega)); have km := (KX9.out.alloc _).gr gm (by omega); have Km := Lib.hid km; have K6m := Lib.hid ((k9.out.alloc _).gr gm (by omega)); have Xa := Lib.hid ((X9.out.step (balloc (Below.refl _ _) _)).gr gm fun g hg => by omega); have Xc := Lib.hid ((X3.out.step (balloc (Below.refl _ _) _)).gr gm fun g hg => by omega); have LVm := Lib.hid ((LV9.out.step (balloc (Below.refl _ _) _)).gr gm (by omega) (by omega) (by omega)); have Hm := Lib.hid hm; have Gm := Lib.hid (((G6.out.trans KG.out).alloc _).trans gm); have hzm := gm.size; simp only [World.size_alloc] at hzm; clear hm gm; obtain ⟨hlk, hllk, qk0, qk1, qk2, qk3, qk4, qk5, qk6, qk7, zk0, zk1, zk2, zk3, zk4, zk5, zk6, zk7⟩ := bf8 km; (try simp at qk0 qk1 qk2 qk3 qk4 qk5 qk6 qk7); have Hkm := Lib.hid km; clear km))
         all_goals
           go_wp2_with fail
           go_meet
           case rel =>
             obtain ⟨e1, e2⟩ := set8 Km.out (.int .i64 op) (.int .i64 0) (.int .i64 0) (.int .i64 0) (.string ⟨#[]⟩) (.int .i64 0) (.string ⟨#[]⟩) (.slice (some ⟨w9.heap.size, 0, none⟩) 2 2)
             refine ⟨rfl, _, e1, K6m.out.turn e2 (by omega), ?_, H.out.turnF HYL.out.symm Hm.out e2 (by omega), Gr.turnFar Gm.out e2 (by omega), LVm.out.turn e2 (by omega) (by omega) (by omega), by have := e2.size; omega⟩
             exact XM.two (KK.out.turn e2 (by omega)) rfl (by omega) (Xa.out.turn e2 fun g hg => by omega) ((Xc.out.turn e2 fun g hg => by omega).mono fun g hg _ => by omega) 2
       case rest =>
         obtain ⟨rfl, cs, kx, k6, hx, hp, gr, hLV, hzx⟩ := hcut
         obtain ⟨o4, ek4, n4, s4, y4, m4, z4, B4, l4, c4, rfl⟩ := hx.cells
         have c2 := hLV.c2
         have HS2 := HS.out
         clear c1 ci
         cases hal : (levelS n).2 with
         | true =>
           rw [hal] at c2 HS2
           rw [if_pos rfl] at HS2
           have HRes := Lib.hid HS2
           have HP7 := Lib.hid hp
           have HG7 := Lib.hid gr
           have HX7 := Lib.hid hx
           clear hp gr hLV hx HS2
           go_wp2_with (first | (refine wpList_load_blk kx rfl _ _ (by rfl) (by rfl) (by (repeat first | with_reducible first | exact kx | apply Blk.alloc | apply Blk.drew | refine Blk.far ?_ (by simp <;> omega) _ | refine Blk.turn ?_ ‹_› (by omega))) _ Tryz.underlying33 rfl (by kernel_rfl) ?_) | (refine wpList_store_blk k6 rfl _ _ _ (by rfl) _ (by rfl) (by rfl) (by repeat first | with_reducible first | exact k6 | apply Blk.alloc | apply Blk.drew | refine Blk.far ?_ (by simp <;> omega) _ | refine Blk.turn ?_ ‹_› (by omega)) (by rfl) (by kernel_rfl) (by simp [Value.oneCell']) ?_; intro wt k6n ht))
           refine ret_blk rfl k6n rfl Tryz.underlying33 rfl (by kernel_rfl) rfl ?_
           have hr := HRes.out
           subst hr
           exact ⟨⟨_, rfl, (HX7.out.turn ht fun g hg => by omega).mono fun g hg _ => by omega⟩, H.out.turnF HYL.out.symm HP7.out ht (Nat.le_refl _), Gr.turnFar HG7.out ht (Nat.le_refl _)⟩
         | false =>
           rw [hal] at c2 HS2
           rw [if_neg (by decide)] at HS2
           have HRes := Lib.hid HS2
           have HP7 := Lib.hid hp
           have HG7 := Lib.hid gr
           have HX7 := Lib.hid hx
           have HL7 := Lib.hid hLV
           clear hp gr hLV hx HS2
           go_wp2_with fail
           go_roundw
           case rel => exact ⟨j1, m - 1, _, _, _, Lib.hid ⟨HRes.out, HY.out.2.2.1.made, HYL.out, by have := HQ.out.2.2.2.1; have := HY.out.2.1; omega, by have := HQ.out.2.2.2.2.1; omega, by have := HQ.out.2.2.2.2.2; omega⟩, kx, k6, HX7.out, HP7.out, HG7.out, HL7.out, hzx⟩
           case measure =>
             rw [nxOf_eq HP7.out, HNX.out, made_nx]
             have e1 : q.nx + 1 ≤ yp.nx := HY.out.2.2.2.nx
             have e2 := HY.out.1
             rw [HQ.out.2.2.1] at e2
             omega
   · have hE : (q.e == 0) = false := by simpa using he
     have hres : (x, q) = X := (more_stop (.inl he)).symm.trans HQ.out.1
     have HRes := Lib.hid hres
     clear hx gr hLV he hres HKX
     have hbp := (hp).blk; obtain ⟨hlp, hllp, qp0, qp1, qp2, qp3, qp4, qp5, zp0, zp1, zp2, zp3, zp4, zp5⟩ := bf6 hbp; (try simp at qp0 qp1 qp2 qp3 qp4 qp5); have Hhbp := Lib.hid hbp; clear hbp
     clear hp
     go_wp2_with (first | (refine wpList_load_blk kx rfl _ _ (by rfl) (by rfl) (by (repeat first | with_reducible first | exact kx | apply Blk.alloc | apply Blk.drew | refine Blk.far ?_ (by simp <;> omega) _ | refine Blk.turn ?_ ‹_› (by omega))) _ Tryz.underlying33 rfl (by kernel_rfl) ?_) | (refine wpList_store_blk k6 rfl _ _ _ (by rfl) _ (by rfl) (by rfl) (by repeat first | with_reducible first | exact k6 | apply Blk.alloc | apply Blk.drew | refine Blk.far ?_ (by simp <;> omega) _ | refine Blk.turn ?_ ‹_› (by omega)) (by rfl) (by kernel_rfl) (by simp [Value.oneCell']) ?_; intro wt k6n ht))
     refine ret_blk rfl k6n rfl Tryz.underlying33 rfl (by kernel_rfl) rfl ?_
     have hr := HRes.out
     subst hr
     exact ⟨⟨_, rfl, (HXM.out.turn ht fun g hg => by omega).mono fun g hg _ => by omega⟩, H.out.turnF HQ.out.2.2.1.symm HP.out ht (Nat.le_refl _), Gr.turnFar HG.out ht (Nat.le_refl _)⟩
end Go.Proofs.YtapilekangmcoaaGreatDoor
