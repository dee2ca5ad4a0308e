/- The walk of the law ExprNames. The law ExprNames of any expression and any name. -/
import Derived.StillTailTactics
import Derived.Test.YtapilekangmcoaaGreatDoorN27
import Derived.Test.YtapilekangmcoaaGreatDoorN31
import Derived.Test.YtapilekangmcoaaGreatDoorN23
import Derived.Test.YtapilekangmcoaaGreatDoorN35
import Derived.Test.YtapilekangmcoaaGreatDoorN36
set_option linter.unusedVariables false
set_option linter.unusedSimpArgs false
set_option maxHeartbeats 8000000
set_option maxRecDepth 100000
namespace Go.Proofs.YtapilekangmcoaaGreatDoor
open Go.RowKit Go.Shelf
theorem en_big (o vk vn vs vm : Int) (q r : ByteArray) (B : Option Addr) (kl kc : Nat) (nm : ByteArray) (z : Int) (hz : z < 0) (w : World)
   (HW : Hid (∀ W, Below w.heap.size w W → Calls Tryz.prog 13 #[] W fun e w' => e = .returned (.bool true) ∧ Below W.heap.size W w'))
   (KB : Hid (∀ W, Below w.heap.size w W → Calls Tryz.prog 12 #[.agg #[.int .i64 o, .int .i64 vk, .int .i64 vn, .int .i64 vs, .string q, .int .i64 vm, .string r, .slice B kl kc], .int .i64 1, .int .i64 500] W fun e w' => e = .returned (.int .i64 z) ∧ Below W.heap.size W w')) :
   Calls Tryz.prog 4 #[.agg #[.int .i64 o, .int .i64 vk, .int .i64 vn, .int .i64 vs, .string q, .int .i64 vm, .string r, .slice B kl kc], .string nm] w fun e w' => e = .returned (.bool true) ∧ Below w.heap.size w w' := by
 have k0 : Blk (w.alloc (.cells #[.int .i64 o, .int .i64 vk, .int .i64 vn, .int .i64 vs, .string q, .int .i64 vm, .string r, .slice B kl kc] 33)) w.heap.size 33 #[.int .i64 o, .int .i64 vk, .int .i64 vn, .int .i64 vs, .string q, .int .i64 vm, .string r, .slice B kl kc] := Blk.new _ _ _
 have K0 := Lib.hid k0
 have hb00 : Below w.heap.size w (w.alloc (.cells #[.int .i64 o, .int .i64 vk, .int .i64 vn, .int .i64 vs, .string q, .int .i64 vm, .string r, .slice B kl kc] 33)) := by (repeat' first | (with_reducible first | exact .refl _ _ | assumption | apply balloc | apply Below.drew | apply bset | refine bstep ?_ ‹_› | refine bturn ?_ ‹_› ?_) | go_size)
 go_enter Tryz.func4, Tryz.ntmps4
 obtain ⟨hlu, hllu, qu0, qu1, qu2, qu3, qu4, qu5, qu6, qu7, zu0, zu1, zu2, zu3, zu4, zu5, zu6, zu7⟩ := bf8 k0; (try simp at qu0 qu1 qu2 qu3 qu4 qu5 qu6 qu7); have Hk0 := Lib.hid k0; clear k0
 go_wp2_with fail
 refine (KB.out _ hb00).mono ?_
 rintro e w1 ⟨rfl, hb1⟩
 have hb01 := bstep hb00 hb1
 have k1 := K0.out.step hb1
 have K1 := Lib.hid k1
 clear qu0 zu0 qu1 zu1 qu2 zu2 qu3 zu3 qu4 zu4 qu5 zu5 qu6 zu6 qu7 zu7 hlu hllu
 clear Hk0 K0 hb1 hb00 KB
 clear k1
 go_wp2_with fail
 refine (HW.out _ hb01).mono ?_
 rintro _ w2 ⟨rfl, hb2⟩
 go_wp2_with fail
 go_returns
 exact ⟨rfl, bstep hb01 hb2⟩
theorem en_no (o vk vn vs vm : Int) (q r : ByteArray) (B : Option Addr) (kl kc : Nat) (nm : ByteArray) (z : Int) (hz : ¬ z < 0) (w : World)
   (HW : Hid (∀ W, Below w.heap.size w W → Calls Tryz.prog 13 #[] W fun e w' => e = .returned (.bool true) ∧ Below W.heap.size W w'))
   (KB : Hid (∀ W, Below w.heap.size w W → Calls Tryz.prog 12 #[.agg #[.int .i64 o, .int .i64 vk, .int .i64 vn, .int .i64 vs, .string q, .int .i64 vm, .string r, .slice B kl kc], .int .i64 1, .int .i64 500] W fun e w' => e = .returned (.int .i64 z) ∧ Below W.heap.size W w'))
   (KN : Hid (∀ W, Below w.heap.size w W → Calls Tryz.prog 14 #[.agg #[.int .i64 o, .int .i64 vk, .int .i64 vn, .int .i64 vs, .string q, .int .i64 vm, .string r, .slice B kl kc]] W fun e w' => e = .returned (.slice none 0 0) ∧ Below W.heap.size W w'))
   (KR : Hid (∀ W, Below w.heap.size w W → Calls Tryz.prog 15 #[.agg #[.int .i64 o, .int .i64 vk, .int .i64 vn, .int .i64 vs, .string q, .int .i64 vm, .string r, .slice B kl kc]] W fun e w' => e = .returned (.bool false) ∧ Below W.heap.size W w')) :
   Calls Tryz.prog 4 #[.agg #[.int .i64 o, .int .i64 vk, .int .i64 vn, .int .i64 vs, .string q, .int .i64 vm, .string r, .slice B kl kc], .string nm] w fun e w' => e = .returned (.bool true) ∧ Below w.heap.size w w' := by
 have k0 : Blk (w.alloc (.cells #[.int .i64 o, .int .i64 vk, .int .i64 vn, .int .i64 vs, .string q, .int .i64 vm, .string r, .slice B kl kc] 33)) w.heap.size 33 #[.int .i64 o, .int .i64 vk, .int .i64 vn, .int .i64 vs, .string q, .int .i64 vm, .string r, .slice B kl kc] := Blk.new _ _ _
 have K0 := Lib.hid k0
 have hb00 : Below w.heap.size w (w.alloc (.cells #[.int .i64 o, .int .i64 vk, .int .i64 vn, .int .i64 vs, .string q, .int .i64 vm, .string r, .slice B kl kc] 33)) := by (repeat' first | (with_reducible first | exact .refl _ _ | assumption | apply balloc | apply Below.drew | apply bset | refine bstep ?_ ‹_› | refine bturn ?_ ‹_› ?_) | go_size)
 go_enter Tryz.func4, Tryz.ntmps4
 obtain ⟨hlu, hllu, qu0, qu1, qu2, qu3, qu4, qu5, qu6, qu7, zu0, zu1, zu2, zu3, zu4, zu5, zu6, zu7⟩ := bf8 k0; (try simp at qu0 qu1 qu2 qu3 qu4 qu5 qu6 qu7); have Hk0 := Lib.hid k0; clear k0
 go_wp2_with fail
 refine (KB.out _ hb00).mono ?_
 rintro e w1 ⟨rfl, hb1⟩
 have hb01 := bstep hb00 hb1
 have k1 := K0.out.step hb1
 have K1 := Lib.hid k1
 clear qu0 zu0 qu1 zu1 qu2 zu2 qu3 zu3 qu4 zu4 qu5 zu5 qu6 zu6 qu7 zu7 hlu hllu
 clear Hk0 K0 hb1 hb00 KB
 obtain ⟨hlu, hllu, qu0, qu1, qu2, qu3, qu4, qu5, qu6, qu7, zu0, zu1, zu2, zu3, zu4, zu5, zu6, zu7⟩ := bf8 k1; (try simp at qu0 qu1 qu2 qu3 qu4 qu5 qu6 qu7); have Hk1 := Lib.hid k1; clear k1
 go_wp2_with fail
 refine (KN.out _ hb01).mono ?_
 rintro e w2 ⟨rfl, hb2⟩
 have hb02 := bstep hb01 hb2
 have k2 := K1.out.step hb2
 have K2 := Lib.hid k2
 clear qu0 zu0 qu1 zu1 qu2 zu2 qu3 zu3 qu4 zu4 qu5 zu5 qu6 zu6 qu7 zu7 hlu hllu
 clear Hk1 K1 hb2 hb01 KN
 obtain ⟨hlu, hllu, qu0, qu1, qu2, qu3, qu4, qu5, qu6, qu7, zu0, zu1, zu2, zu3, zu4, zu5, zu6, zu7⟩ := bf8 k2; (try simp at qu0 qu1 qu2 qu3 qu4 qu5 qu6 qu7); have Hk2 := Lib.hid k2; clear k2
 go_wp2_with fail
 refine (KR.out _ hb02).mono ?_
 rintro e w3 ⟨rfl, hb3⟩
 have hb03 := bstep hb02 hb3
 have k3 := K2.out.step hb3
 have K3 := Lib.hid k3
 clear qu0 zu0 qu1 zu1 qu2 zu2 qu3 zu3 qu4 zu4 qu5 zu5 qu6 zu6 qu7 zu7 hlu hllu
 clear Hk2 K2
 clear k3
 go_wp2_with fail
 refine (HW.out _ hb03).mono ?_
 rintro _ w4 ⟨rfl, hb4⟩
 go_wp2_with fail
 go_returns
 exact ⟨by first | rfl | simp, bstep hb03 hb4⟩
theorem en_yes (o vk vn vs vm : Int) (q r : ByteArray) (B : Option Addr) (kl kc : Nat) (nm : ByteArray) (z : Int) (hz : ¬ z < 0) (nn : Bs) (hnn : bs nn = nm) (NL : List Bs) (hNL : (NL.length : Int) ≤ 9223372036854775807) (hup : NL.Pairwise (· < ·)) (h : Bool) (hh : h = true ↔ nn ∈ NL) (w : World)
   (HW : Hid (∀ W, Below w.heap.size w W → Calls Tryz.prog 13 #[] W fun e w' => e = .returned (.bool true) ∧ Below W.heap.size W w'))
   (KB : Hid (∀ W, Below w.heap.size w W → Calls Tryz.prog 12 #[.agg #[.int .i64 o, .int .i64 vk, .int .i64 vn, .int .i64 vs, .string q, .int .i64 vm, .string r, .slice B kl kc], .int .i64 1, .int .i64 500] W fun e w' => e = .returned (.int .i64 z) ∧ Below W.heap.size W w'))
   (KN : Hid (∀ W, Below w.heap.size w W → Calls Tryz.prog 14 #[.agg #[.int .i64 o, .int .i64 vk, .int .i64 vn, .int .i64 vs, .string q, .int .i64 vm, .string r, .slice B kl kc]] W fun e w' => (∃ G cc, e = .returned (.slice G NL.length cc) ∧ RM clN 1 w' G NL) ∧ Below W.heap.size W w'))
   (KR : Hid (∀ W, Below w.heap.size w W → Calls Tryz.prog 15 #[.agg #[.int .i64 o, .int .i64 vk, .int .i64 vn, .int .i64 vs, .string q, .int .i64 vm, .string r, .slice B kl kc]] W fun e w' => e = .returned (.bool true) ∧ Below W.heap.size W w'))
   (KH : Hid (∀ n ∈ NL, ∀ W, Below w.heap.size w W → Calls Tryz.prog 16 #[.agg #[.int .i64 o, .int .i64 vk, .int .i64 vn, .int .i64 vs, .string q, .int .i64 vm, .string r, .slice B kl kc], .string (bs n)] W fun e w' => e = .returned (.bool true) ∧ Below W.heap.size W w'))
   (KG : Hid (∀ W, Below w.heap.size w W → Calls Tryz.prog 16 #[.agg #[.int .i64 o, .int .i64 vk, .int .i64 vn, .int .i64 vs, .string q, .int .i64 vm, .string r, .slice B kl kc], .string nm] W fun e w' => e = .returned (.bool h) ∧ Below W.heap.size W w')) :
   Calls Tryz.prog 4 #[.agg #[.int .i64 o, .int .i64 vk, .int .i64 vn, .int .i64 vs, .string q, .int .i64 vm, .string r, .slice B kl kc], .string nm] w fun e w' => e = .returned (.bool true) ∧ Below w.heap.size w w' := by
 have HNN := Lib.hid hnn
 have HUP := Lib.hid hup
 have HHH := Lib.hid hh
 clear hnn hup hh
 have k0 : Blk (w.alloc (.cells #[.int .i64 o, .int .i64 vk, .int .i64 vn, .int .i64 vs, .string q, .int .i64 vm, .string r, .slice B kl kc] 33)) w.heap.size 33 #[.int .i64 o, .int .i64 vk, .int .i64 vn, .int .i64 vs, .string q, .int .i64 vm, .string r, .slice B kl kc] := Blk.new _ _ _
 have K0 := Lib.hid k0
 have hb00 : Below w.heap.size w (w.alloc (.cells #[.int .i64 o, .int .i64 vk, .int .i64 vn, .int .i64 vs, .string q, .int .i64 vm, .string r, .slice B kl kc] 33)) := by (repeat' first | (with_reducible first | exact .refl _ _ | assumption | apply balloc | apply Below.drew | apply bset | refine bstep ?_ ‹_› | refine bturn ?_ ‹_› ?_) | go_size)
 go_enter Tryz.func4, Tryz.ntmps4
 obtain ⟨hlu, hllu, qu0, qu1, qu2, qu3, qu4, qu5, qu6, qu7, zu0, zu1, zu2, zu3, zu4, zu5, zu6, zu7⟩ := bf8 k0; (try simp at qu0 qu1 qu2 qu3 qu4 qu5 qu6 qu7); have Hk0 := Lib.hid k0; clear k0
 go_wp2_with fail
 refine (KB.out _ hb00).mono ?_
 rintro e w1 ⟨rfl, hb1⟩
 have hb01 := bstep hb00 hb1
 have k1 := K0.out.step hb1
 have K1 := Lib.hid k1
 clear qu0 zu0 qu1 zu1 qu2 zu2 qu3 zu3 qu4 zu4 qu5 zu5 qu6 zu6 qu7 zu7 hlu hllu
 clear Hk0 K0 hb1 hb00 KB
 obtain ⟨hlu, hllu, qu0, qu1, qu2, qu3, qu4, qu5, qu6, qu7, zu0, zu1, zu2, zu3, zu4, zu5, zu6, zu7⟩ := bf8 k1; (try simp at qu0 qu1 qu2 qu3 qu4 qu5 qu6 qu7); have Hk1 := Lib.hid k1; clear k1
 go_wp2_with fail
 refine (KN.out _ hb01).mono ?_
 rintro e w2 ⟨⟨G, cc, rfl, hG⟩, hb2⟩
 have hb02 := bstep hb01 hb2
 have k2 := K1.out.step hb2
 have K2 := Lib.hid k2
 clear qu0 zu0 qu1 zu1 qu2 zu2 qu3 zu3 qu4 zu4 qu5 zu5 qu6 zu6 qu7 zu7 hlu hllu
 have HG0 := Lib.hid hG
 clear hG Hk1 K1 hb2 hb01 KN
 obtain ⟨hlu, hllu, qu0, qu1, qu2, qu3, qu4, qu5, qu6, qu7, zu0, zu1, zu2, zu3, zu4, zu5, zu6, zu7⟩ := bf8 k2; (try simp at qu0 qu1 qu2 qu3 qu4 qu5 qu6 qu7); have Hk2 := Lib.hid k2; clear k2
 go_wp2_with fail
 refine (KR.out _ hb02).mono ?_
 rintro e w3 ⟨rfl, hb3⟩
 have hb03 := bstep hb02 hb3
 have k3 := K2.out.step hb3
 have K3 := Lib.hid k3
 clear qu0 zu0 qu1 zu1 qu2 zu2 qu3 zu3 qu4 zu4 qu5 zu5 qu6 zu6 qu7 zu7 hlu hllu
 clear Hk2 K2
 have HG := Lib.hid (HG0.out.step hb3)
 clear HG0 hb02 hb3 KR
 go_wp2_with fail
 go_loopw [6, 7] (fun x i wr => ∃ (k : Nat) (b : Bool), k ≤ NL.length ∧ i = .int .i64 (k : Int) ∧ x = .bool b ∧ Below w.heap.size w wr ∧ Below w3.heap.size w3 wr ∧ Blk wr w.heap.size 33 #[.int .i64 o, .int .i64 vk, .int .i64 vn, .int .i64 vs, .string q, .int .i64 vm, .string r, .slice B kl kc] ∧ Hid (b = true ↔ nn ∈ NL.take k)) (fun _ i _ => NL.length - (intOf i).toNat)
 case atStart => exact ⟨0, false, by omega, rfl, rfl, hb03, Below.refl _ _, k3, Lib.hid (by simp)⟩
 case round =>
   obtain ⟨k, b, hk, rfl, rfl, hb, hb3, kx, HQ⟩ := hrel
   have KX := Lib.hid kx
   clear k3
   by_cases hlt : k < NL.length
   · obtain ⟨n, hn⟩ : ∃ n, NL[k]? = some n := ⟨NL[k], List.getElem?_eq_getElem hlt⟩
     have hki : (k : Int) < (NL.length : Int) := by omega
     have hkn : IntKind.i64.wrap ((k : Int) + 1) = ((k + 1 : Nat) : Int) := by rw [IntWalk.i64_in _ (by omega)]; omega
     obtain ⟨g, off, rfl, hc⟩ := HG.out k n hn
     have c2 := keep1 hb3 (hc 0 _ rfl)
     rw [Nat.mul_one, Nat.add_zero] at c2
     obtain ⟨q2, hq2⟩ : ∃ q2, bs n = q2 := ⟨_, rfl⟩
     have KH1 := Lib.hid (KH.out n (List.mem_of_getElem? hn))
     obtain ⟨eb, heb⟩ : ∃ eb, (q2.toList == nm.toList) = eb := ⟨_, rfl⟩
     obtain ⟨b2, hb2⟩ : ∃ b2, (b || eb) = b2 := ⟨_, rfl⟩
     have HQ2 : Hid (b2 = true ↔ nn ∈ NL.take (k + 1)) := Lib.hid (by
       have h1 : eb = true ↔ nn = n := by
         rw [← heb, ← hq2, ← HNN.out, bs_toList, bs_toList, beq_iff_eq]
         exact ⟨fun h => h.symm, fun h => h.symm⟩
       have h2 : NL.take (k + 1) = NL.take k ++ [n] := by
         obtain ⟨hk2, rfl⟩ := List.getElem?_eq_some_iff.1 hn
         exact List.take_succ_eq_append_getElem hk2
       rw [← hb2, Bool.or_eq_true, HQ.out, h1, h2, List.mem_append, List.mem_singleton])
     have HC1 : Hid (∀ k', k = k' + 1 → ∃ n1, NL[k']? = some n1 ∧ n1 < n) := Lib.hid fun k' he => by
       subst he
       obtain ⟨hk2, rfl⟩ := List.getElem?_eq_some_iff.1 hn
       exact ⟨NL[k'], List.getElem?_eq_getElem (by omega), List.pairwise_iff_getElem.1 HUP.out k' (k' + 1) (by omega) hk2 (by omega)⟩
     rw [hq2] at c2 KH1
     have HQ2N := Lib.hid hq2
     clear hq2 hc HQ
     obtain ⟨hlx, hllx, qx0, qx1, qx2, qx3, qx4, qx5, qx6, qx7, zx0, zx1, zx2, zx3, zx4, zx5, zx6, zx7⟩ := bf8 kx; (try simp at qx0 qx1 qx2 qx3 qx4 qx5 qx6 qx7); have Hkx := Lib.hid kx; clear kx
     go_upto_region 10 with fail
     go_cut [6] (fun z wx => z = .bool b2 ∧ wx = wr)
     case first =>
       cases b with
       | true =>
         obtain rfl : true = b2 := by rw [← hb2]; rfl
         go_wp2_with fail
         go_meet
         case rel => exact ⟨rfl, rfl⟩
       | false =>
         obtain rfl : eb = b2 := by rw [← hb2]; rfl
         clear hb2
         go_wp2_with fail
         go_meet
         case rel => exact ⟨by first | rfl | rw [heb] | simp [heb], rfl⟩
     case rest =>
       obtain ⟨rfl, rfl⟩ := hcut
       clear heb hb2
       obtain rfl | ⟨k', hk1⟩ : k = 0 ∨ ∃ k', k = k' + 1 := by
         cases k with
         | zero => exact .inl rfl
         | succ k' => exact .inr ⟨k', rfl⟩
       · clear HC1
         clear hn
         rw [Nat.add_zero] at c2
         have h00 : ((0 : Nat) : Int) = 0 := rfl
         have hki0 : (0 : Int) < (NL.length : Int) := by omega
         have hkn0 : IntKind.i64.wrap ((0 : Int) + 1) = 1 := by decide
         clear hki hkn
         simp only [h00]
         go_upto_region 11 with fail
         go_cut [60] (fun z wx => z = .bool false ∧ Below wc.heap.size wc wx)
         case first =>
           refine wp_region_held_drew (S := (fun w' => (w'.cell? ⟨w.heap.size, 0, none⟩ = some (.int .i64 o)) ∧ (w'.cell? ⟨w.heap.size, 1, none⟩ = some (.int .i64 vk)) ∧ (w'.cell? ⟨w.heap.size, 2, none⟩ = some (.int .i64 vn)) ∧ (w'.cell? ⟨w.heap.size, 3, none⟩ = some (.int .i64 vs)) ∧ (w'.cell? ⟨w.heap.size, 4, none⟩ = some (.string q)) ∧ (w'.cell? ⟨w.heap.size, 5, none⟩ = some (.int .i64 vm)) ∧ (w'.cell? ⟨w.heap.size, 6, none⟩ = some (.string r)) ∧ (w'.cell? ⟨w.heap.size, 7, none⟩ = some (.slice B kl kc)) ∧ (w'.cell? ⟨g, off, none⟩ = some (.string q2)))) (by kernel_rfl) ?_ (fun hHeld => ?_)
           · (try dsimp only)
             ((first | (simp [*, World.cell?_alloc_some, World.cell?_setCell_far]; done) | (go_split_ands; (repeat' apply And.intro) <;> first | assumption | exact keep1 (by assumption) (by assumption) | (simp [go_sem]; done) | (repeat (first | (with_reducible assumption) | (with_reducible refine keepd ?_) | (with_reducible refine keepa2 ?_))))))
           refine' wpAnyH_take (i := 0) (oi := _) (v := _) ?hi0 ?hs0 ?hf0 ?hr0 ?hQ0 ?hy0 ?hS0 ?hz0
           case hi0 => simp only [List.getElem?_toArray, List.getElem?_cons_succ, List.getElem?_cons_zero]; rfl
           case hs0 => kernel_rfl
           case hf0 => kernel_rfl
           case hr0 => kernel_rfl
           case hS0 => assumption
           case hy0 =>
             refine Or.inl ⟨by rfl, ?_⟩
             intro w hSw
             try dsimp only at hSw
             go_simp
             all_goals with_reducible rfl
           case hQ0 => exact fun _ _ _ h => h
           try simp only [Act.put, List.setIfInBounds_toArray, List.set_cons_zero, List.set_cons_succ]
           refine' wpAnyH_take (i := 1) (oi := _) (v := _) ?hi1 ?hs1 ?hf1 ?hr1 ?hQ1 ?hy1 ?hS1 ?hz1
           case hi1 => simp only [List.getElem?_toArray, List.getElem?_cons_succ, List.getElem?_cons_zero]; rfl
           case hs1 => kernel_rfl
           case hf1 => kernel_rfl
           case hr1 => kernel_rfl
           case hS1 => assumption
           case hy1 =>
             refine Or.inl ⟨by rfl, ?_⟩
             intro w hSw
             try dsimp only at hSw
             go_simp
             all_goals with_reducible rfl
           case hQ1 => exact fun _ _ _ h => h
           try simp only [Act.put, List.setIfInBounds_toArray, List.set_cons_zero, List.set_cons_succ]
           refine' wpAnyH_take (i := 2) (oi := _) (v := _) ?hi2 ?hs2 ?hf2 ?hr2 ?hQ2 ?hy2 ?hS2 ?hz2
           case hi2 => simp only [List.getElem?_toArray, List.getElem?_cons_succ, List.getElem?_cons_zero]; rfl
           case hs2 => kernel_rfl
           case hf2 => kernel_rfl
           case hr2 => kernel_rfl
           case hS2 => assumption
           case hy2 =>
             refine Or.inl ⟨by rfl, ?_⟩
             intro w hSw
             try dsimp only at hSw
             go_simp
             all_goals with_reducible rfl
           case hQ2 => exact fun _ _ _ h => h
           try simp only [Act.put, List.setIfInBounds_toArray, List.set_cons_zero, List.set_cons_succ]
           refine' wpAnyH_take (i := 3) (oi := _) (v := undef) ?hi3 ?hs3 ?hf3 ?hr3 ?hQ3 ?hy3 ?hS3 ?hz3
           case hi3 => simp only [List.getElem?_toArray, List.getElem?_cons_succ, List.getElem?_cons_zero]; rfl
           case hs3 => kernel_rfl
           case hf3 => kernel_rfl
           case hr3 => kernel_rfl
           case hS3 => assumption
           case hy3 => exact Or.inr ⟨by rfl, rfl⟩
           case hQ3 => exact fun _ _ _ h => h
           try simp only [Act.put, List.setIfInBounds_toArray, List.set_cons_zero, List.set_cons_succ]
           refine' wpAnyH_take (i := 4) (oi := _) (v := undef) ?hi4 ?hs4 ?hf4 ?hr4 ?hQ4 ?hy4 ?hS4 ?hz4
           case hi4 => simp only [List.getElem?_toArray, List.getElem?_cons_succ, List.getElem?_cons_zero]; rfl
           case hs4 => kernel_rfl
           case hf4 => kernel_rfl
           case hr4 => kernel_rfl
           case hS4 => assumption
           case hy4 => exact Or.inr ⟨by rfl, rfl⟩
           case hQ4 => exact fun _ _ _ h => h
           try simp only [Act.put, List.setIfInBounds_toArray, List.set_cons_zero, List.set_cons_succ]
           refine' wpAnyH_take (i := 5) (oi := _) (v := undef) ?hi5 ?hs5 ?hf5 ?hr5 ?hQ5 ?hy5 ?hS5 ?hz5
           case hi5 => simp only [List.getElem?_toArray, List.getElem?_cons_succ, List.getElem?_cons_zero]; rfl
           case hs5 => kernel_rfl
           case hf5 => kernel_rfl
           case hr5 => kernel_rfl
           case hS5 => assumption
           case hy5 => exact Or.inr ⟨by rfl, rfl⟩
           case hQ5 => exact fun _ _ _ h => h
           try simp only [Act.put, List.setIfInBounds_toArray, List.set_cons_zero, List.set_cons_succ]
           refine' wpAnyH_take (i := 6) (oi := _) (v := undef) ?hi6 ?hs6 ?hf6 ?hr6 ?hQ6 ?hy6 ?hS6 ?hz6
           case hi6 => simp only [List.getElem?_toArray, List.getElem?_cons_succ, List.getElem?_cons_zero]; rfl
           case hs6 => kernel_rfl
           case hf6 => kernel_rfl
           case hr6 => kernel_rfl
           case hS6 => assumption
           case hy6 => exact Or.inr ⟨by rfl, rfl⟩
           case hQ6 => exact fun _ _ _ h => h
           try simp only [Act.put, List.setIfInBounds_toArray, List.set_cons_zero, List.set_cons_succ]
           refine' wpAnyH_take (i := 7) (oi := _) (v := undef) ?hi7 ?hs7 ?hf7 ?hr7 ?hQ7 ?hy7 ?hS7 ?hz7
           case hi7 => simp only [List.getElem?_toArray, List.getElem?_cons_succ, List.getElem?_cons_zero]; rfl
           case hs7 => kernel_rfl
           case hf7 => kernel_rfl
           case hr7 => kernel_rfl
           case hS7 => assumption
           case hy7 => exact Or.inr ⟨by rfl, rfl⟩
           case hQ7 => exact fun _ _ _ h => h
           try simp only [Act.put, List.setIfInBounds_toArray, List.set_cons_zero, List.set_cons_succ]
           refine' wpAnyH_take (i := 8) (oi := _) (v := undef) ?hi8 ?hs8 ?hf8 ?hr8 ?hQ8 ?hy8 ?hS8 ?hz8
           case hi8 => simp only [List.getElem?_toArray, List.getElem?_cons_succ, List.getElem?_cons_zero]; rfl
           case hs8 => kernel_rfl
           case hf8 => kernel_rfl
           case hr8 => kernel_rfl
           case hS8 => assumption
           case hy8 => exact Or.inr ⟨by rfl, rfl⟩
           case hQ8 => exact fun _ _ _ h => h
           try simp only [Act.put, List.setIfInBounds_toArray, List.set_cons_zero, List.set_cons_succ]
           refine' wpAnyH_take (i := 9) (oi := _) (v := undef) ?hi9 ?hs9 ?hf9 ?hr9 ?hQ9 ?hy9 ?hS9 ?hz9
           case hi9 => simp only [List.getElem?_toArray, List.getElem?_cons_succ, List.getElem?_cons_zero]; rfl
           case hs9 => kernel_rfl
           case hf9 => kernel_rfl
           case hr9 => kernel_rfl
           case hS9 => assumption
           case hy9 => exact Or.inr ⟨by rfl, rfl⟩
           case hQ9 => exact fun _ _ _ h => h
           try simp only [Act.put, List.setIfInBounds_toArray, List.set_cons_zero, List.set_cons_succ]
           refine' wpAnyH_take (i := 10) (oi := _) (v := undef) ?hi10 ?hs10 ?hf10 ?hr10 ?hQ10 ?hy10 ?hS10 ?hz10
           case hi10 => simp only [List.getElem?_toArray, List.getElem?_cons_succ, List.getElem?_cons_zero]; rfl
           case hs10 => kernel_rfl
           case hf10 => kernel_rfl
           case hr10 => kernel_rfl
           case hS10 => assumption
           case hy10 => exact Or.inr ⟨by rfl, rfl⟩
           case hQ10 => exact fun _ _ _ h => h
           try simp only [Act.put, List.setIfInBounds_toArray, List.set_cons_zero, List.set_cons_succ]
           refine' wpAnyH_take (i := 11) (oi := _) (v := undef) ?hi11 ?hs11 ?hf11 ?hr11 ?hQ11 ?hy11 ?hS11 ?hz11
           case hi11 => simp only [List.getElem?_toArray, List.getElem?_cons_succ, List.getElem?_cons_zero]; rfl
           case hs11 => kernel_rfl
           case hf11 => kernel_rfl
           case hr11 => kernel_rfl
           case hS11 => assumption
           case hy11 => exact Or.inr ⟨by rfl, rfl⟩
           case hQ11 => exact fun _ _ _ h => h
           try simp only [Act.put, List.setIfInBounds_toArray, List.set_cons_zero, List.set_cons_succ]
           refine' wpAnyH_take (i := 12) (oi := _) (v := undef) ?hi12 ?hs12 ?hf12 ?hr12 ?hQ12 ?hy12 ?hS12 ?hz12
           case hi12 => simp only [List.getElem?_toArray, List.getElem?_cons_succ, List.getElem?_cons_zero]; rfl
           case hs12 => kernel_rfl
           case hf12 => kernel_rfl
           case hr12 => kernel_rfl
           case hS12 => assumption
           case hy12 => exact Or.inr ⟨by rfl, rfl⟩
           case hQ12 => exact fun _ _ _ h => h
           try simp only [Act.put, List.setIfInBounds_toArray, List.set_cons_zero, List.set_cons_succ]
           refine' wpAnyH_take (i := 13) (oi := _) (v := _) ?hi13 ?hs13 ?hf13 ?hr13 ?hQ13 ?hy13 ?hS13 ?hz13
           case hi13 => simp only [List.getElem?_toArray, List.getElem?_cons_succ, List.getElem?_cons_zero]; rfl
           case hs13 => kernel_rfl
           case hf13 => kernel_rfl
           case hr13 => kernel_rfl
           case hS13 => assumption
           case hy13 =>
             refine Or.inl ⟨by rfl, ?_⟩
             intro w hSw
             try dsimp only at hSw
             go_simp
             all_goals with_reducible rfl
           case hQ13 => exact fun _ _ _ h => h
           try simp only [Act.put, List.setIfInBounds_toArray, List.set_cons_zero, List.set_cons_succ]
           refine' wpAnyH_take (i := 14) (oi := _) (v := _) ?hi14 ?hs14 ?hf14 ?hr14 ?hQ14 ?hy14 ?hS14 ?hz14
           case hi14 => simp only [List.getElem?_toArray, List.getElem?_cons_succ, List.getElem?_cons_zero]; rfl
           case hs14 => kernel_rfl
           case hf14 => kernel_rfl
           case hr14 => kernel_rfl
           case hS14 => assumption
           case hy14 =>
             refine Or.inl ⟨by rfl, ?_⟩
             intro w hSw
             try dsimp only at hSw
             go_simp
             all_goals with_reducible rfl
           case hQ14 => exact fun _ _ _ h => h
           try simp only [Act.put, List.setIfInBounds_toArray, List.set_cons_zero, List.set_cons_succ]
           refine' wpAnyH_take (i := 15) (oi := _) (v := _) ?hi15 ?hs15 ?hf15 ?hr15 ?hQ15 ?hy15 ?hS15 ?hz15
           case hi15 => simp only [List.getElem?_toArray, List.getElem?_cons_succ, List.getElem?_cons_zero]; rfl
           case hs15 => kernel_rfl
           case hf15 => kernel_rfl
           case hr15 => kernel_rfl
           case hS15 => assumption
           case hy15 =>
             refine Or.inl ⟨by rfl, ?_⟩
             intro w hSw
             try dsimp only at hSw
             go_simp
             all_goals with_reducible rfl
           case hQ15 => exact fun _ _ _ h => h
           try simp only [Act.put, List.setIfInBounds_toArray, List.set_cons_zero, List.set_cons_succ]
           refine' wpAnyH_take (i := 16) (oi := _) (v := _) ?hi16 ?hs16 ?hf16 ?hr16 ?hQ16 ?hy16 ?hS16 ?hz16
           case hi16 => simp only [List.getElem?_toArray, List.getElem?_cons_succ, List.getElem?_cons_zero]; rfl
           case hs16 => kernel_rfl
           case hf16 => kernel_rfl
           case hr16 => kernel_rfl
           case hS16 => assumption
           case hy16 =>
             refine Or.inl ⟨by rfl, ?_⟩
             intro w hSw
             try dsimp only at hSw
             go_simp
             all_goals with_reducible rfl
           case hQ16 => exact fun _ _ _ h => h
           try simp only [Act.put, List.setIfInBounds_toArray, List.set_cons_zero, List.set_cons_succ]
           refine' wpAnyH_take (i := 17) (oi := _) (v := _) ?hi17 ?hs17 ?hf17 ?hr17 ?hQ17 ?hy17 ?hS17 ?hz17
           case hi17 => simp only [List.getElem?_toArray, List.getElem?_cons_succ, List.getElem?_cons_zero]; rfl
           case hs17 => kernel_rfl
           case hf17 => kernel_rfl
           case hr17 => kernel_rfl
           case hS17 => assumption
           case hy17 =>
             refine Or.inl ⟨by rfl, ?_⟩
             intro w hSw
             try dsimp only at hSw
             go_simp
             all_goals with_reducible rfl
           case hQ17 => exact fun _ _ _ h => h
           try simp only [Act.put, List.setIfInBounds_toArray, List.set_cons_zero, List.set_cons_succ]
           refine' wpAnyH_take (i := 18) (oi := _) (v := _) ?hi18 ?hs18 ?hf18 ?hr18 ?hQ18 ?hy18 ?hS18 ?hz18
           case hi18 => simp only [List.getElem?_toArray, List.getElem?_cons_succ, List.getElem?_cons_zero]; rfl
           case hs18 => kernel_rfl
           case hf18 => kernel_rfl
           case hr18 => kernel_rfl
           case hS18 => assumption
           case hy18 =>
             refine Or.inl ⟨by rfl, ?_⟩
             intro w hSw
             try dsimp only at hSw
             go_simp
             all_goals with_reducible rfl
           case hQ18 => exact fun _ _ _ h => h
           try simp only [Act.put, List.setIfInBounds_toArray, List.set_cons_zero, List.set_cons_succ]
           refine' wpAnyH_take (i := 19) (oi := _) (v := _) ?hi19 ?hs19 ?hf19 ?hr19 ?hQ19 ?hy19 ?hS19 ?hz19
           case hi19 => simp only [List.getElem?_toArray, List.getElem?_cons_succ, List.getElem?_cons_zero]; rfl
           case hs19 => kernel_rfl
           case hf19 => kernel_rfl
           case hr19 => kernel_rfl
           case hS19 => assumption
           case hy19 =>
             refine Or.inl ⟨by rfl, ?_⟩
             intro w hSw
             try dsimp only at hSw
             go_simp
             all_goals with_reducible rfl
           case hQ19 => exact fun _ _ _ h => h
           try simp only [Act.put, List.setIfInBounds_toArray, List.set_cons_zero, List.set_cons_succ]
           refine wpAnyH_ready (rs := [20]) (by kernel_rfl) (by simp) ?_
           refine' AllReadyH.cons (o := _) ?hi20 (fun K hK => ?hst20) AllReadyH.nil
           case hi20 => simp only [List.getElem?_toArray, List.getElem?_cons_succ, List.getElem?_cons_zero]; rfl
           go_simp
           refine (KH1.out _ (bdrewN hb _)).mono ?_
           rintro e wq ⟨rfl, hbq⟩
           obtain ⟨hcq, hfq⟩ := bcell hbq
           have hzq := hbq.size
           dsimp only
           refine hK.out _ _ ?_ (fun hHeld => ?_)
           · (try dsimp only)
             ((first | (simp [*, World.cell?_alloc_some, World.cell?_setCell_far]; done) | (go_split_ands; (repeat' apply And.intro) <;> first | assumption | exact keep1 (by assumption) (by assumption) | (simp [go_sem]; done) | (repeat (first | (with_reducible assumption) | (with_reducible refine keepd ?_) | (with_reducible refine keepa2 ?_))))))
           clear hK K
           try simp only [Act.put, List.setIfInBounds_toArray, List.set_cons_zero, List.set_cons_succ]
           refine' wpAnyH_take (i := 21) (oi := _) (v := _) ?hi21 ?hs21 ?hf21 ?hr21 ?hQ21 ?hy21 ?hS21 ?hz21
           case hi21 => simp only [List.getElem?_toArray, List.getElem?_cons_succ, List.getElem?_cons_zero]; rfl
           case hs21 => kernel_rfl
           case hf21 => kernel_rfl
           case hr21 => kernel_rfl
           case hS21 => assumption
           case hy21 =>
             refine Or.inl ⟨by rfl, ?_⟩
             intro w hSw
             try dsimp only at hSw
             go_simp
             all_goals with_reducible rfl
           case hQ21 => exact fun _ _ _ h => h
           try simp only [Act.put, List.setIfInBounds_toArray, List.set_cons_zero, List.set_cons_succ]
           refine' wpAnyH_take (i := 22) (oi := _) (v := _) ?hi22 ?hs22 ?hf22 ?hr22 ?hQ22 ?hy22 ?hS22 ?hz22
           case hi22 => simp only [List.getElem?_toArray, List.getElem?_cons_succ, List.getElem?_cons_zero]; rfl
           case hs22 => kernel_rfl
           case hf22 => kernel_rfl
           case hr22 => kernel_rfl
           case hS22 => assumption
           case hy22 =>
             refine Or.inl ⟨by rfl, ?_⟩
             intro w hSw
             try dsimp only at hSw
             go_simp
             all_goals with_reducible rfl
           case hQ22 => exact fun _ _ _ h => h
           try simp only [Act.put, List.setIfInBounds_toArray, List.set_cons_zero, List.set_cons_succ]
           refine wpAnyH_done (by kernel_rfl) ?_ _
           all_goals
             go_wp2_with fail
             go_meet
             case rel => exact ⟨by first | rfl | simp, by first | assumption | (repeat' first | (with_reducible first | apply bdrewN | exact .refl _ _ | assumption | apply balloc | apply Below.drew | apply bset | refine bstep ?_ ‹_› | refine bturn ?_ ‹_› ?_) | go_size)⟩
         case rest =>
           obtain ⟨rfl, hbw⟩ := hcut
           rename World => w5
           have hb05 := bstep hb hbw
           have k5 := KX.out.step hbw
           clear c2 qx0 zx0 qx1 zx1 qx2 zx2 qx3 zx3 qx4 zx4 qx5 zx5 qx6 zx6 qx7 zx7 hlx hllx
           go_wp2_with fail
           go_roundw
           case rel => exact ⟨1, b2, by omega, by go_num, rfl, hb05, bstep hb3 hbw, k5, HQ2⟩
           case measure => simp [intOf]; omega
       · obtain ⟨n1, hn1, hlt1⟩ := HC1.out k' hk1
         obtain ⟨g', off', eA, hc1⟩ := HG.out k' n1 hn1
         injection eA with eA
         injection eA with eA1 eA2
         subst eA1 eA2
         have c1 := keep1 hb3 (hc1 0 _ rfl)
         rw [Nat.mul_one, Nat.add_zero] at c1
         obtain ⟨q1, hq1⟩ : ∃ q1, bs n1 = q1 := ⟨_, rfl⟩
         have hle : (Op.bytesLess q2.toList q1.toList || q2.toList == q1.toList) = false := by
           rw [← hq1, ← HQ2N.out, bs_toList, bs_toList, bl_eq]
           rw [Bool.or_eq_false_iff]
           refine ⟨decide_eq_false (List.lt_asymm hlt1), ?_⟩
           simp only [beq_eq_false_iff_ne]
           intro e
           rw [e] at hlt1
           exact List.lt_irrefl _ hlt1
         rw [hq1] at c1
         have hgt : (0 : Int) < (k : Int) := by omega
         have hgn : 0 < k := by omega
         have hgd : decide ((0 : Int) < (k : Int)) = true := decide_eq_true hgt
         have hkm : IntKind.i64.wrap ((k : Int) - 1) = ((k' : Nat) : Int) := by rw [IntWalk.i64_in _ (by omega)]; omega
         have hki1 : (k' : Int) < (NL.length : Int) := by omega
         clear hc1 hn1 hq1 hlt1 hn hk1 HC1
         go_upto_region 11 with fail
         go_cut [60] (fun z wx => z = .bool false ∧ Below wc.heap.size wc wx)
         case first =>
           go_region_held3 (fun w' => (w'.cell? ⟨w.heap.size, 0, none⟩ = some (.int .i64 o)) ∧ (w'.cell? ⟨w.heap.size, 1, none⟩ = some (.int .i64 vk)) ∧ (w'.cell? ⟨w.heap.size, 2, none⟩ = some (.int .i64 vn)) ∧ (w'.cell? ⟨w.heap.size, 3, none⟩ = some (.int .i64 vs)) ∧ (w'.cell? ⟨w.heap.size, 4, none⟩ = some (.string q)) ∧ (w'.cell? ⟨w.heap.size, 5, none⟩ = some (.int .i64 vm)) ∧ (w'.cell? ⟨w.heap.size, 6, none⟩ = some (.string r)) ∧ (w'.cell? ⟨w.heap.size, 7, none⟩ = some (.slice B kl kc)) ∧ (w'.cell? ⟨g, off + k', none⟩ = some (.string q1)) ∧ (w'.cell? ⟨g, off + k, none⟩ = some (.string q2))) ((first | (simp [*, World.cell?_alloc_some, World.cell?_setCell_far]; done) | (go_split_ands; (repeat' apply And.intro) <;> first | assumption | exact keep1 (by assumption) (by assumption) | (simp [go_sem]; done) | (repeat (first | (with_reducible assumption) | (with_reducible refine keepd ?_) | (with_reducible refine keepa2 ?_)))))) ((go_at_call 16; refine (KH1.out _ (by first | exact hb | exact bdrewN hb _ | (refine bdrewN ?_ _; exact hb))).mono ?_; rintro e wq ⟨rfl, hbq⟩; obtain ⟨hcq, hfq⟩ := bcell hbq; have hzq := hbq.size))
           all_goals
             go_wp2_with fail
             go_meet
             case rel => exact ⟨by first | rfl | simp, by first | assumption | (repeat' first | (with_reducible first | apply bdrewN | exact .refl _ _ | assumption | apply balloc | apply Below.drew | apply bset | refine bstep ?_ ‹_› | refine bturn ?_ ‹_› ?_) | go_size)⟩
         case rest =>
           obtain ⟨rfl, hbw⟩ := hcut
           rename World => w5
           have hb05 := bstep hb hbw
           have k5 := KX.out.step hbw
           clear c2 c1 qx0 zx0 qx1 zx1 qx2 zx2 qx3 zx3 qx4 zx4 qx5 zx5 qx6 zx6 qx7 zx7 hlx hllx
           go_wp2_with fail
           go_roundw
           case rel => exact ⟨k + 1, b2, by omega, by go_num, rfl, hb05, bstep hb3 hbw, k5, HQ2⟩
           case measure => simp [intOf]; omega
   · obtain rfl : k = NL.length := by omega
     rw [List.take_length] at HQ
     have hbh : (b == h) = true := by
       rw [beq_iff_eq, Bool.eq_iff_iff, HQ.out, HHH.out]
     clear hlt
     go_wp2_with fail
     refine (HW.out _ hb).mono ?_
     rintro _ w6 ⟨rfl, hb6⟩
     have hb06 := bstep hb hb6
     have k6 := KX.out.step hb6
     obtain ⟨hlu, hllu, qu0, qu1, qu2, qu3, qu4, qu5, qu6, qu7, zu0, zu1, zu2, zu3, zu4, zu5, zu6, zu7⟩ := bf8 k6; (try simp at qu0 qu1 qu2 qu3 qu4 qu5 qu6 qu7); have Hk6 := Lib.hid k6; clear k6
     go_wp2_with fail
     refine (KG.out _ hb06).mono ?_
     rintro _ w7 ⟨rfl, hb7⟩
     go_wp2_with fail
     go_returns
     exact ⟨by first | rfl | simp [hbh], bstep hb06 hb7⟩
end Go.Proofs.YtapilekangmcoaaGreatDoor
namespace Go.Proofs.YtapilekangmcoaaGreatDoor
open Go.RowKit Go.Shelf
theorem en_any (hTA : Hid ETextAny) (x : Ex) (n : Bs) (cs : Array Value) (m : Int) (w : World) (hw : OKW m w) (hx : XM (fun _ => True) w x cs) (hv : EV x) :
   Calls Tryz.prog 4 #[.agg cs, .string (bs n)] w fun e w' => e = .returned (.bool true) ∧ Below w.heap.size w w' := by
 have HW := Lib.hid fun W (h : Below w.heap.size w W) => awake_ex hTA m W (hw.step h)
 have KB := Lib.hid fun W (h : Below w.heap.size w W) => big8_all w x cs 1 500 W hx h (by decide) (by decide) (by decide)
 have KR := fun W (h : Below w.heap.size w W) => rsoundx_any x cs W (hx.step h) hv
 have KG := Lib.hid fun W (h : Below w.heap.size w W) => has_all w n x cs W hx h
 by_cases hz : bigS x 1 500 < 0
 · obtain ⟨C, kc, hcs, _⟩ := hx.kd
   subst hcs
   exact en_big x.op x.v.k x.v.n x.v.s x.v.m (bs x.v.t) (bs x.nm) C x.kids.length kc (bs n) _ hz w HW KB
 · cases hs : soundX x with
   | false =>
     rw [hs] at KR
     have KN := Lib.hid fun W (h : Below w.heap.size w W) => Names_no x cs hs m W (hw.step h) (hx.step h) hv
     obtain ⟨C, kc, hcs, _⟩ := hx.kd
     subst hcs
     exact en_no x.op x.v.k x.v.n x.v.s x.v.m (bs x.v.t) (bs x.nm) C x.kids.length kc (bs n) _ hz w HW KB KN (Lib.hid KR)
   | true =>
     rw [hs] at KR
     have KN := Lib.hid fun W (h : Below w.heap.size w W) => Names_any x cs hs m W (hw.step h) (hx.step h) hv
     have KH := Lib.hid fun t (ht : t ∈ nmL x) W (h : Below w.heap.size w W) => by
       have h1 := has_all w t x cs W hx h
       rw [(has_mem t x).2 ((nmL_mem x t).1 ht)] at h1
       exact h1
     have hcnt := nms_len ((soundX_iff x).1 hs).1
     have hlen := nmL_len x
     have hcn := ((soundX_iff x).1 hs).2
     obtain ⟨C, kc, hcs, _⟩ := hx.kd
     subst hcs
     exact en_yes x.op x.v.k x.v.n x.v.s x.v.m (bs x.v.t) (bs x.nm) C x.kids.length kc (bs n) _ hz n rfl (nmL x) (by omega) (nmL_up x) (hasE n x) ((has_mem n x).trans (nmL_mem x n).symm) w HW KB KN (Lib.hid KR) KH KG
end Go.Proofs.YtapilekangmcoaaGreatDoor
