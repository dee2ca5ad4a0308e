/- The walks of expr.Parser's prefix at a name, and where nothing may stand. Printed by genpre.py. -/
import Derived.Test.YtapilekangmcoaaGreatDoorN23
set_option linter.unusedVariables false
set_option linter.unusedSimpArgs false
set_option maxHeartbeats 8000000
set_option maxRecDepth 100000
namespace Go.Proofs.YtapilekangmcoaaGreatDoor
open Go.RowKit
theorem pref_6w (b : Nat) (A : Option Addr) (c : Nat) (p : PS) (t : Tk) (d : Nat) (w : World) (h : PB w b A c p) (he : p.e = 0) (hn : p.isS [45] = false) (hn2 : p.isS [40] = false) (hn3 : p.isS bNot = false) (hv : p.val = none) (ht : p.L[p.nx]? = some t) (hk : t.k = 4) (hw : wordB t.t = false) :
   Calls Tryz.prog 76 #[.pointer (some ⟨b, 0, none⟩), .int .i64 (d : Int)] w fun e w' => EOut b A c w w' (zeroE, p.fail 5) e := by
 have hlw := h.blk.lt
 have k0 : Blk (w.alloc (.cells #[.int .i64 0, .int .i64 0, .int .i64 0, .int .i64 0, .string ⟨#[]⟩, .int .i64 0, .string ⟨#[]⟩, .slice none 0 0] 33)) w.heap.size 33 #[.int .i64 0, .int .i64 0, .int .i64 0, .int .i64 0, .string ⟨#[]⟩, .int .i64 0, .string ⟨#[]⟩, .slice none 0 0] := Blk.new _ _ _
 have hA : Below w.heap.size w (w.alloc (.cells #[.int .i64 0, .int .i64 0, .int .i64 0, .int .i64 0, .string ⟨#[]⟩, .int .i64 0, .string ⟨#[]⟩, .slice none 0 0] 33)) := by (repeat' first | (with_reducible first | exact .refl _ _ | assumption | apply balloc | apply Below.drew | apply bset | refine bstep ?_ ‹_› | refine bturn ?_ ‹_› ?_) | go_size)
 have H1 := Lib.hid (h.step hA)
 have K0 := Lib.hid k0
 have G1 := Lib.hid (Gr.of hA : Gr b w _)
 have HS1 : Hid ((w.alloc (.cells #[.int .i64 0, .int .i64 0, .int .i64 0, .int .i64 0, .string ⟨#[]⟩, .int .i64 0, .string ⟨#[]⟩, .slice none 0 0] 33)).heap.size = w.heap.size + 1) := Lib.hid (by simp)
 have H := Lib.hid h
 have h1 := H1.out
 have KT0 := Lib.hid (fun (W : World) (h : PB W b A c p) => take_any b A c p [45] W h)
 have KT1 := Lib.hid (fun (W : World) (h : PB W b A c p) => take_any b A c p [40] W h)
 have KT2 := Lib.hid (fun (W : World) (h : PB W b A c p) => take_any b A c p bNot W h)
 rw [hn, take_no hn] at KT0
 rw [hn2, take_no hn2] at KT1
 rw [hn3, take_no hn3] at KT2
 have HE := Lib.hid he
 have KV := Lib.hid (fun (W : World) (h : PB W b A c p) => value_any b A c p W h)
 rw [hv] at KV
 have KV2 : Hid (∀ W, PB W b A c p → Calls Tryz.prog 119 #[.pointer (some ⟨b, 0, none⟩)] W fun e w' => e = .returned (.tuple #[.agg #[.int .i64 0, .int .i64 0, .int .i64 0, .string ⟨#[]⟩, .int .i64 0], .bool false]) ∧ PB w' b A c p ∧ Gr b W w') := Lib.hid (fun W h => KV.out W h)
 have KF := Lib.hid (fun (W : World) (h : PB W b A c p) => fail_any b A c p 5 W h)
 have KW := Lib.hid (fun (W : World) => word_any (bs t.t) t.t rfl false hw W)
 have HT := Lib.hid ht
 have hnl : p.nx < p.L.length := (List.getElem?_eq_some_iff.1 ht).1
 have hni : (p.nx : Int) < (p.L.length : Int) := by omega
 obtain ⟨q, hq⟩ : ∃ q, bs t.t = q := ⟨_, rfl⟩
 have HQ := Lib.hid hq
 have HK := Lib.hid hk
 rw [hq] at KW
 clear h k0 hA hn hn2 hn3 he hv hq KV hw ht hk
 go_enter Tryz.func76, Tryz.ntmps76
 go_upto_region 1 with fail
 generalize (w.alloc (.cells #[.int .i64 0, .int .i64 0, .int .i64 0, .int .i64 0, .string ⟨#[]⟩, .int .i64 0, .string ⟨#[]⟩, .slice none 0 0] 33)) = w1 at *
 have hz1 := HS1.out
 have hbp := (h1).blk; obtain ⟨hlp, hllp, qp0, qp1, qp2, qp3, qp4, qp5, zp0, zp1, zp2, zp3, zp4, zp5⟩ := bf6 hbp; (try simp at qp0 qp1 qp2 qp3 qp4 qp5); have Hhbp := Lib.hid hbp; clear hbp
 rw [HE.out] at qp4
 clear h1
 go_wp2_with fail
 refine (KT0.out _ H1.out).mono ?_
 rintro e w2 ⟨rfl, h2, g2⟩
 have hz2 := g2.size
 have K2 := Lib.hid (K0.out.gr g2 (by omega))
 have G2 := Lib.hid (G1.out.trans g2)
 clear qp0 zp0 qp1 zp1 qp2 zp2 qp3 zp3 qp4 zp4 qp5 zp5 hlp hllp Hhbp
 go_wp2_with fail
 refine (KT1.out _ h2).mono ?_
 rintro e w3 ⟨rfl, h3, g3⟩
 have hz3 := g3.size
 have K3 := Lib.hid (K2.out.gr g3 (by omega))
 have G3 := Lib.hid (G2.out.trans g3)
 clear h2
 go_wp2_with fail
 refine (KT2.out _ h3).mono ?_
 rintro e w4 ⟨rfl, h4, g4⟩
 have hz4 := g4.size
 have K4 := Lib.hid (K3.out.gr g4 (by omega))
 have G4 := Lib.hid (G3.out.trans g4)
 clear h3
 clear g2 g3 g4 KT0 KT1 KT2
 go_wp2_with fail
 refine (KV2.out _ h4).mono ?_
 rintro e w5 ⟨rfl, h5, g5⟩
 have hz5 := g5.size
 have K5 := Lib.hid (K4.out.gr g5 (by omega))
 have G5 := Lib.hid (G4.out.trans g5)
 have HP5 := Lib.hid h5
 have kv : Blk (w5.alloc (.cells #[.int .i64 0, .int .i64 0, .int .i64 0, .string ⟨#[]⟩, .int .i64 0] 25)) w5.heap.size 25 #[.int .i64 0, .int .i64 0, .int .i64 0, .string ⟨#[]⟩, .int .i64 0] := Blk.new _ _ _
 clear h4 h5 g5 KV2
 go_upto_region 19 with (refine wpList_store_blk kv rfl _ _ _ (by rfl) _ (by rfl) (by rfl) (by repeat first | with_reducible first | exact kv | apply Blk.alloc | apply Blk.drew | refine Blk.far ?_ (by simp <;> omega) _ | refine Blk.turn ?_ ‹_› (by omega)) (by rfl) (by kernel_rfl) (by simp [Value.oneCell']) ?_; intro wt kvn ht)
 have hb6 : Below w5.heap.size w5 wt := bturn (balloc (Below.refl _ _) _) ht (Nat.le_refl _)
 have K6 := Lib.hid (K5.out.step hb6)
 have hz6 : w5.heap.size < wt.heap.size := kvn.lt
 have h6 := HP5.out.step hb6
 have H6 := Lib.hid h6
 have G6 := Lib.hid (G5.out.bstep hb6)
 clear kv kvn HP5 G5 hb6 ht
 obtain ⟨g, f, rfl, c0, c1, c2, c3, c4, c5⟩ := tm_get h6.tm HT.out
 rw [HQ.out] at c2
 rw [HK.out] at c0
 have hlg := block_lt_of_cell c0
 simp only at hlg
 have hllg := lts hlg
 have hbr := (h6).blk; obtain ⟨hlr, hllr, qr0, qr1, qr2, qr3, qr4, qr5, zr0, zr1, zr2, zr3, zr4, zr5⟩ := bf6 hbr; (try simp at qr0 qr1 qr2 qr3 qr4 qr5); have Hhbr := Lib.hid hbr; clear hbr
 rw [HE.out] at qr4
 clear h6
 go_cut [99] (fun z wx => z = .bool false ∧ Below wt.heap.size wt wx)
 case first =>
   go_region_held3 (fun w' => (w'.cell? ⟨b, 0, none⟩ = some (.slice (some ⟨g, f, none⟩) p.L.length c)) ∧ (w'.cell? ⟨b, 1, none⟩ = some (.int .i64 (p.nx : Int))) ∧ (w'.cell? ⟨g, f + p.nx * 6, none⟩ = some (.int .i64 4)) ∧ (w'.cell? ⟨g, f + p.nx * 6 + 2, none⟩ = some (.string q))) ((first | (simp [*, World.cell?_alloc_some, World.cell?_setCell_far]; done) | (go_split_ands; (repeat' apply And.intro) <;> first | assumption | exact keep1 (by assumption) (by assumption) | (simp [go_sem]; done) | (repeat (first | (with_reducible assumption) | (with_reducible refine keepd ?_) | (with_reducible refine keepa2 ?_)))))) ((go_at_call 79; refine (KW.out _).mono ?_; rintro e wq ⟨rfl, hbq⟩; have hcq := (bcell hbq).1; have hzq := hbq.size; try simp only [World.size_drew] at hzq))
   go_wp2_with fail
   go_meet
   case rel => exact ⟨rfl, by (repeat' first | (with_reducible first | apply bdrewN | exact .refl _ _ | assumption | apply balloc | apply Below.drew | apply bset | refine bstep ?_ ‹_› | refine bturn ?_ ‹_› ?_) | go_size)⟩
 case rest =>
   obtain ⟨rfl, hbx⟩ := hcut
   clear c0 c1 c2 c3 c4 c5 hlg hllg KW
   clear qr0 zr0 qr1 zr1 qr2 zr2 qr3 zr3 qr4 zr4 qr5 zr5 hlr hllr Hhbr
   have K7 := Lib.hid (K6.out.step hbx)
   have h7 := H6.out.step hbx
   have G7 := Lib.hid (G6.out.bstep hbx)
   have hz7 := hbx.size
   clear K6 H6 G6 hbx
   go_wp2_with fail
   refine (KF.out _ h7).mono ?_
   rintro e w8 ⟨rfl, h8, g8⟩
   have k8 := K7.out.gr g8 (by omega)
   have H8 := Lib.hid h8
   have G8 := Lib.hid (G7.out.trans g8)
   clear h7 h8 g8
   go_wp2_with (refine wpList_store_blk k8 rfl _ _ _ (by rfl) _ (by rfl) (by rfl) (by repeat first | with_reducible first | exact k8 | apply Blk.alloc | apply Blk.drew | refine Blk.far ?_ (by simp <;> omega) _ | refine Blk.turn ?_ ‹_› (by omega)) (by rfl) (by kernel_rfl) (by simp [Value.oneCell']) ?_; intro wt k8n ht)
   refine ret_blk rfl k8n rfl Tryz.underlying33 rfl (by kernel_rfl) rfl ?_
   exact ⟨⟨_, rfl, zero_xm⟩, H.out.turnF (fail_L _ _).symm H8.out ht (Nat.le_refl _), Gr.turnFar G8.out ht (Nat.le_refl _)⟩
theorem pref_5 (b : Nat) (A : Option Addr) (c : Nat) (p : PS) (t : Tk) (d : Nat) (w : World) (h : PB w b A c p) (he : p.e = 0) (hn : p.isS [45] = false) (hn2 : p.isS [40] = false) (hn3 : p.isS bNot = false) (hv : p.val = none) (ht : p.L[p.nx]? = some t) (hk : t.k = 4) (hw : wordB t.t = true) (hm0 : 0 ≤ p.md) (hm1 : p.md ≤ 200000) :
   Calls Tryz.prog 76 #[.pointer (some ⟨b, 0, none⟩), .int .i64 (d : Int)] w fun e w' => EOut b A c w w' (.mk 2 zeroV t.t [], p.made.adv) e := by
 have hlw := h.blk.lt
 have k0 : Blk (w.alloc (.cells #[.int .i64 0, .int .i64 0, .int .i64 0, .int .i64 0, .string ⟨#[]⟩, .int .i64 0, .string ⟨#[]⟩, .slice none 0 0] 33)) w.heap.size 33 #[.int .i64 0, .int .i64 0, .int .i64 0, .int .i64 0, .string ⟨#[]⟩, .int .i64 0, .string ⟨#[]⟩, .slice none 0 0] := Blk.new _ _ _
 have hA : Below w.heap.size w (w.alloc (.cells #[.int .i64 0, .int .i64 0, .int .i64 0, .int .i64 0, .string ⟨#[]⟩, .int .i64 0, .string ⟨#[]⟩, .slice none 0 0] 33)) := by (repeat' first | (with_reducible first | exact .refl _ _ | assumption | apply balloc | apply Below.drew | apply bset | refine bstep ?_ ‹_› | refine bturn ?_ ‹_› ?_) | go_size)
 have H1 := Lib.hid (h.step hA)
 have K0 := Lib.hid k0
 have G1 := Lib.hid (Gr.of hA : Gr b w _)
 have HS1 : Hid ((w.alloc (.cells #[.int .i64 0, .int .i64 0, .int .i64 0, .int .i64 0, .string ⟨#[]⟩, .int .i64 0, .string ⟨#[]⟩, .slice none 0 0] 33)).heap.size = w.heap.size + 1) := Lib.hid (by simp)
 have H := Lib.hid h
 have h1 := H1.out
 have KT0 := Lib.hid (fun (W : World) (h : PB W b A c p) => take_any b A c p [45] W h)
 have KT1 := Lib.hid (fun (W : World) (h : PB W b A c p) => take_any b A c p [40] W h)
 have KT2 := Lib.hid (fun (W : World) (h : PB W b A c p) => take_any b A c p bNot W h)
 rw [hn, take_no hn] at KT0
 rw [hn2, take_no hn2] at KT1
 rw [hn3, take_no hn3] at KT2
 have HE := Lib.hid he
 have KV := Lib.hid (fun (W : World) (h : PB W b A c p) => value_any b A c p W h)
 rw [hv] at KV
 have KV2 : Hid (∀ W, PB W b A c p → Calls Tryz.prog 119 #[.pointer (some ⟨b, 0, none⟩)] W fun e w' => e = .returned (.tuple #[.agg #[.int .i64 0, .int .i64 0, .int .i64 0, .string ⟨#[]⟩, .int .i64 0], .bool false]) ∧ PB w' b A c p ∧ Gr b W w') := Lib.hid (fun W h => KV.out W h)
 have KM := Lib.hid (fun (B : Option Addr) (n cp : Nat) (W : World) (h : PB W b A c p) => emake_any b A c p 2 B n cp W h hm0 hm1)
 have HR : Hid (p.made.L = p.L) := Lib.hid (made_L _)
 have hnx2 : IntKind.i64.wrap ((p.nx : Int) + 1) = (p.nx : Int) + 1 := IntWalk.i64_in _ (by have := h.le; have := h.big; omega)
 have HML : Hid (p.made.nx = p.nx ∧ p.made.L = p.L) := Lib.hid ⟨made_nx p, made_L p⟩
 obtain ⟨pm, hpm⟩ : ∃ q, p.made = q := ⟨_, rfl⟩
 rw [hpm] at KM HR HML
 rw [hpm]
 have KW := Lib.hid (fun (W : World) => word_any (bs t.t) t.t rfl true hw W)
 have HT := Lib.hid ht
 have hnl : p.nx < p.L.length := (List.getElem?_eq_some_iff.1 ht).1
 have hni : (p.nx : Int) < (p.L.length : Int) := by omega
 obtain ⟨q, hq⟩ : ∃ q, bs t.t = q := ⟨_, rfl⟩
 have HQ := Lib.hid hq
 have HK := Lib.hid hk
 rw [hq] at KW
 clear h k0 hA hn hn2 hn3 he hv hm0 hm1 hq KV hw ht hk hpm
 go_enter Tryz.func76, Tryz.ntmps76
 go_upto_region 1 with fail
 generalize (w.alloc (.cells #[.int .i64 0, .int .i64 0, .int .i64 0, .int .i64 0, .string ⟨#[]⟩, .int .i64 0, .string ⟨#[]⟩, .slice none 0 0] 33)) = w1 at *
 have hz1 := HS1.out
 have hbp := (h1).blk; obtain ⟨hlp, hllp, qp0, qp1, qp2, qp3, qp4, qp5, zp0, zp1, zp2, zp3, zp4, zp5⟩ := bf6 hbp; (try simp at qp0 qp1 qp2 qp3 qp4 qp5); have Hhbp := Lib.hid hbp; clear hbp
 rw [HE.out] at qp4
 clear h1
 go_wp2_with fail
 refine (KT0.out _ H1.out).mono ?_
 rintro e w2 ⟨rfl, h2, g2⟩
 have hz2 := g2.size
 have K2 := Lib.hid (K0.out.gr g2 (by omega))
 have G2 := Lib.hid (G1.out.trans g2)
 clear qp0 zp0 qp1 zp1 qp2 zp2 qp3 zp3 qp4 zp4 qp5 zp5 hlp hllp Hhbp
 go_wp2_with fail
 refine (KT1.out _ h2).mono ?_
 rintro e w3 ⟨rfl, h3, g3⟩
 have hz3 := g3.size
 have K3 := Lib.hid (K2.out.gr g3 (by omega))
 have G3 := Lib.hid (G2.out.trans g3)
 clear h2
 go_wp2_with fail
 refine (KT2.out _ h3).mono ?_
 rintro e w4 ⟨rfl, h4, g4⟩
 have hz4 := g4.size
 have K4 := Lib.hid (K3.out.gr g4 (by omega))
 have G4 := Lib.hid (G3.out.trans g4)
 clear h3
 clear g2 g3 g4 KT0 KT1 KT2
 go_wp2_with fail
 refine (KV2.out _ h4).mono ?_
 rintro e w5 ⟨rfl, h5, g5⟩
 have hz5 := g5.size
 have K5 := Lib.hid (K4.out.gr g5 (by omega))
 have G5 := Lib.hid (G4.out.trans g5)
 have HP5 := Lib.hid h5
 have kv : Blk (w5.alloc (.cells #[.int .i64 0, .int .i64 0, .int .i64 0, .string ⟨#[]⟩, .int .i64 0] 25)) w5.heap.size 25 #[.int .i64 0, .int .i64 0, .int .i64 0, .string ⟨#[]⟩, .int .i64 0] := Blk.new _ _ _
 clear h4 h5 g5 KV2
 go_upto_region 19 with (refine wpList_store_blk kv rfl _ _ _ (by rfl) _ (by rfl) (by rfl) (by repeat first | with_reducible first | exact kv | apply Blk.alloc | apply Blk.drew | refine Blk.far ?_ (by simp <;> omega) _ | refine Blk.turn ?_ ‹_› (by omega)) (by rfl) (by kernel_rfl) (by simp [Value.oneCell']) ?_; intro wt kvn ht)
 have hb6 : Below w5.heap.size w5 wt := bturn (balloc (Below.refl _ _) _) ht (Nat.le_refl _)
 have K6 := Lib.hid (K5.out.step hb6)
 have hz6 : w5.heap.size < wt.heap.size := kvn.lt
 have h6 := HP5.out.step hb6
 have H6 := Lib.hid h6
 have G6 := Lib.hid (G5.out.bstep hb6)
 clear kv kvn HP5 G5 hb6 ht
 obtain ⟨g, f, rfl, c0, c1, c2, c3, c4, c5⟩ := tm_get h6.tm HT.out
 rw [HQ.out] at c2
 rw [HK.out] at c0
 have hlg := block_lt_of_cell c0
 simp only at hlg
 have hllg := lts hlg
 have hbr := (h6).blk; obtain ⟨hlr, hllr, qr0, qr1, qr2, qr3, qr4, qr5, zr0, zr1, zr2, zr3, zr4, zr5⟩ := bf6 hbr; (try simp at qr0 qr1 qr2 qr3 qr4 qr5); have Hhbr := Lib.hid hbr; clear hbr
 rw [HE.out] at qr4
 clear h6
 go_cut [99] (fun z wx => z = .bool true ∧ Below wt.heap.size wt wx)
 case first =>
   go_region_held3 (fun w' => (w'.cell? ⟨b, 0, none⟩ = some (.slice (some ⟨g, f, none⟩) p.L.length c)) ∧ (w'.cell? ⟨b, 1, none⟩ = some (.int .i64 (p.nx : Int))) ∧ (w'.cell? ⟨g, f + p.nx * 6, none⟩ = some (.int .i64 4)) ∧ (w'.cell? ⟨g, f + p.nx * 6 + 2, none⟩ = some (.string q))) ((first | (simp [*, World.cell?_alloc_some, World.cell?_setCell_far]; done) | (go_split_ands; (repeat' apply And.intro) <;> first | assumption | exact keep1 (by assumption) (by assumption) | (simp [go_sem]; done) | (repeat (first | (with_reducible assumption) | (with_reducible refine keepd ?_) | (with_reducible refine keepa2 ?_)))))) ((go_at_call 79; refine (KW.out _).mono ?_; rintro e wq ⟨rfl, hbq⟩; have hcq := (bcell hbq).1; have hzq := hbq.size; try simp only [World.size_drew] at hzq))
   go_wp2_with fail
   go_meet
   case rel => exact ⟨rfl, by (repeat' first | (with_reducible first | apply bdrewN | exact .refl _ _ | assumption | apply balloc | apply Below.drew | apply bset | refine bstep ?_ ‹_› | refine bturn ?_ ‹_› ?_) | go_size)⟩
 case rest =>
   obtain ⟨rfl, hbx⟩ := hcut
   clear c0 c1 c2 c3 c4 c5 hlg hllg KW
   clear qr0 zr0 qr1 zr1 qr2 zr2 qr3 zr3 qr4 zr4 qr5 zr5 hlr hllr Hhbr
   have K7 := Lib.hid (K6.out.step hbx)
   have h7 := H6.out.step hbx
   have G7 := Lib.hid (G6.out.bstep hbx)
   have hz7 := hbx.size
   clear K6 H6 G6 hbx
   go_wp2_with fail
   refine (KM.out _ _ _ _ h7).mono ?_
   rintro e w8 ⟨rfl, h8, g8⟩
   have hz8 := g8.size
   have K8 := Lib.hid (K7.out.gr g8 (by omega))
   have G8 := Lib.hid (G7.out.trans g8)
   have HP8 := Lib.hid h8
   have kn : Blk (w8.alloc (.cells #[.int .i64 0, .int .i64 0, .int .i64 0, .int .i64 0, .string ⟨#[]⟩, .int .i64 0, .string ⟨#[]⟩, .slice none 0 0] 33)) w8.heap.size 33 #[.int .i64 0, .int .i64 0, .int .i64 0, .int .i64 0, .string ⟨#[]⟩, .int .i64 0, .string ⟨#[]⟩, .slice none 0 0] := Blk.new _ _ _
   clear h7 h8 g8 KM
   go_upto_region 21 with (refine wpList_store_blk kn rfl _ _ _ (by rfl) _ (by rfl) (by rfl) (by repeat first | with_reducible first | exact kn | apply Blk.alloc | apply Blk.drew | refine Blk.far ?_ (by simp <;> omega) _ | refine Blk.turn ?_ ‹_› (by omega)) (by rfl) (by kernel_rfl) (by simp [Value.oneCell']) ?_; intro wt knn ht)
   have hb9 : Below w8.heap.size w8 wt := bturn (balloc (Below.refl _ _) _) ht (Nat.le_refl _)
   have K9 := Lib.hid (K8.out.step hb9)
   have kn9 := knn
   have KN9 := Lib.hid knn
   have hz9 : w8.heap.size < wt.heap.size := knn.lt
   have h9 := HP8.out.step hb9
   have HP9 := Lib.hid h9
   have G9 := Lib.hid (G8.out.bstep hb9)
   clear kn knn HP8 G8 hb9 ht
   obtain ⟨g2, f2, eA, c0, c1, c2, c3, c4, c5⟩ := tm_get h9.tm (show pm.L[p.nx]? = some t by rw [HML.out.2]; exact HT.out)
   injection eA with eA
   injection eA with eA1 eA2
   subst eA1 eA2
   rw [HQ.out] at c2
   clear c0 c1 c3 c4 c5
   have hbs := (h9).blk; obtain ⟨hls, hlls, qs0, qs1, qs2, qs3, qs4, qs5, zs0, zs1, zs2, zs3, zs4, zs5⟩ := bf6 hbs; (try simp at qs0 qs1 qs2 qs3 qs4 qs5); have Hhbs := Lib.hid hbs; clear hbs
   rw [HML.out.1] at qs1
   rw [HML.out.2] at qs0
   clear h9
   obtain ⟨hln, hlln, qn0, qn1, qn2, qn3, qn4, qn5, qn6, qn7, zn0, zn1, zn2, zn3, zn4, zn5, zn6, zn7⟩ := bf8 kn9; (try simp at qn0 qn1 qn2 qn3 qn4 qn5 qn6 qn7); have Hkn9 := Lib.hid kn9; clear kn9
   rw [put_none]
   go_cut [10] (fun z wx => z = .pointer (some ⟨w8.heap.size, 0, none⟩) ∧ Blk wx w8.heap.size 33 #[.int .i64 2, .int .i64 0, .int .i64 0, .int .i64 0, .string ⟨#[]⟩, .int .i64 0, .string q, .slice none 0 0] ∧ Blk wx w.heap.size 33 #[.int .i64 0, .int .i64 0, .int .i64 0, .int .i64 0, .string ⟨#[]⟩, .int .i64 0, .string ⟨#[]⟩, .slice none 0 0] ∧ PB wx b (some ⟨g, f, none⟩) c pm ∧ Gr b w wx)
   case first =>
     go_region
     all_goals
       go_wp2_with fail
       go_meet
       case rel =>
         have t0 := Turned.setCell wt w8.heap.size 6 (.string q)
         have t1 : Turned wt (wt.setCell ⟨w8.heap.size, 6, none⟩ (.string q)).drew w8.heap.size := ⟨t0.os, t0.tape, t0.output, t0.size, t0.block⟩
         have e1 := (KN9.out.set_ 6 (.string q)).drew
         exact ⟨rfl, by simpa using e1, K9.out.turn t1 (by omega), H.out.turnF HML.out.2.symm HP9.out t1 (by omega), Gr.turnFar G9.out t1 (by omega)⟩
   case rest =>
     obtain ⟨rfl, ex, kx, hx, gx⟩ := hcut
     clear c2 qn0 qn1 qn2 qn3 qn4 qn5 qn6 qn7 zn0 zn1 zn2 zn3 zn4 zn5 zn6 zn7 hln hlln
     clear qs0 zs0 qs1 zs1 qs2 zs2 qs3 zs3 qs4 zs4 qs5 zs5 hls hlls Hhbs
     have HXX := Lib.hid hx
     have hnl2 : pm.nx < pm.L.length := by rw [HML.out.1, HML.out.2]; exact hnl
     have g10 : Gr b w (wc.setCell ⟨b, 1, none⟩ (.int .i64 ((p.nx : Int) + 1))) := gx.set _ _
     have gg : Gr b wc (wc.setCell ⟨b, 1, none⟩ (.int .i64 ((p.nx : Int) + 1))) := (Gr.refl _ _).set _ _
     have h10 : PB (wc.setCell ⟨b, 1, none⟩ (.int .i64 ((p.nx : Int) + 1))) b (some ⟨g, f, none⟩) c pm.adv := by have := hx.adv hnl2; rw [HML.out.1] at this; exact this
     have k10 := kx.gr gg (by omega)
     have e10 := ex.gr gg (by omega)
     have hbv := (hx).blk; obtain ⟨hlv, hllv, qv0, qv1, qv2, qv3, qv4, qv5, zv0, zv1, zv2, zv3, zv4, zv5⟩ := bf6 hbv; (try simp at qv0 qv1 qv2 qv3 qv4 qv5); have Hhbv := Lib.hid hbv; clear hbv
     rw [HML.out.1] at qv1
     clear hx ex kx gx
     go_upto_region 23 with fail
     generalize wc.setCell ⟨b, 1, none⟩ (.int .i64 ((p.nx : Int) + 1)) = w11 at *
     clear qv0 zv0 qv1 zv1 qv2 zv2 qv3 zv3 qv4 zv4 qv5 zv5 hlv hllv Hhbv
     have H11 := Lib.hid h10
     have G11 := Lib.hid g10
     clear h10 g10 gg
     go_wp2_with (first | (refine wpList_load_blk e10 rfl _ _ (by rfl) (by rfl) (by (repeat first | with_reducible first | exact e10 | apply Blk.alloc | apply Blk.drew | refine Blk.far ?_ (by simp <;> omega) _ | refine Blk.turn ?_ ‹_› (by omega))) _ Tryz.underlying33 rfl (by kernel_rfl) ?_) | (refine wpList_store_blk k10 rfl _ _ _ (by rfl) _ (by rfl) (by rfl) (by repeat first | with_reducible first | exact k10 | apply Blk.alloc | apply Blk.drew | refine Blk.far ?_ (by simp <;> omega) _ | refine Blk.turn ?_ ‹_› (by omega)) (by rfl) (by kernel_rfl) (by simp [Value.oneCell']) ?_; intro wt k10n ht))
     refine ret_blk rfl k10n rfl Tryz.underlying33 rfl (by kernel_rfl) rfl ?_
     exact ⟨⟨_, rfl, by rw [← HQ.out]; exact XM.nil none 0⟩, H.out.turnF (show p.L = pm.adv.L from HML.out.2.symm) H11.out ht (Nat.le_refl _), Gr.turnFar G11.out ht (Nat.le_refl _)⟩
end Go.Proofs.YtapilekangmcoaaGreatDoor
