/- The walk of calc.Eval. -/
import Derived.Test.YtapilekangmcoaaGreatDoorA28
import Derived.Test.YtapilekangmcoaaGreatDoorA32
set_option linter.unusedVariables false
set_option linter.unusedSimpArgs false
set_option maxHeartbeats 8000000
set_option maxRecDepth 100000
namespace Go.Proofs.YtapilekangmcoaaGreatDoor
open Go.RowKit Go.Shelf
set_option maxHeartbeats 4000000 in
theorem e1clo_walk (q t : ByteArray) (k n s m : Int) (b : Bool) (w : World) (KV : Hid (∀ W, Below w.heap.size w W → Calls Tryz.prog 32 #[.agg #[.int .i64 k, .int .i64 n, .int .i64 s, .string t, .int .i64 m]] W fun x w' => x = .returned (.bool b) ∧ Below W.heap.size W w')) :
   Calls Tryz.prog 31 #[.agg #[.string q, .int .i64 k, .int .i64 n, .int .i64 s, .string t, .int .i64 m]] w fun x w' => x = .returned (.bool (!b)) ∧ Below w.heap.size w w' := by
 go_enter Tryz.func31, Tryz.ntmps31
 go_wp2_with fail
 refine (KV.out _ (by (repeat' first | (with_reducible first | exact .refl _ _ | assumption | apply balloc | apply Below.drew | apply bset | refine bstep ?_ ‹_› | refine bturn ?_ ‹_› ?_) | go_size))).mono ?_
 rintro e w1 ⟨rfl, hb1⟩
 go_wp2_with fail
 go_returns
 exact ⟨rfl, by (repeat' first | (with_reducible first | exact .refl _ _ | assumption | apply balloc | apply Below.drew | apply bset | refine bstep ?_ ‹_› | refine bturn ?_ ‹_› ?_) | go_size)⟩
set_option maxHeartbeats 4000000 in
theorem e2clo_walk (q r t : ByteArray) (k n s m : Int) (e : Bool) (he : (q.toList == r.toList) = e) (D : Nat) (w : World) (h : w.cell? ⟨D, 0, none⟩ = some (.string r)) :
   Calls Tryz.prog 33 #[.agg #[.string q, .int .i64 k, .int .i64 n, .int .i64 s, .string t, .int .i64 m], .pointer (some ⟨D, 0, none⟩)] w fun x w' => x = .returned (.bool e) ∧ Below w.heap.size w w' := by
 have hl := block_lt_of_cell h
 simp only at hl
 have hll := lts hl
 go_enter Tryz.func33, Tryz.ntmps33
 go_wp2_with fail
 go_returns
 exact ⟨by first | rfl | rw [he], by (repeat' first | (with_reducible first | exact .refl _ _ | assumption | apply balloc | apply Below.drew | apply bset | refine bstep ?_ ‹_› | refine bturn ?_ ‹_› ?_) | go_size)⟩
theorem E_no1 (o vk vn vs vm : Int) (q r : ByteArray) (B : Option Addr) (kl kc : Nat) (A : Option Addr) (N c : Nat) (w : World) (HN : Hid (NU w))
   (KS : Hid (∀ W, Below w.heap.size w W → Calls Tryz.prog 29 #[.agg #[.int .i64 o, .int .i64 vk, .int .i64 vn, .int .i64 vs, .string q, .int .i64 vm, .string r, .slice B kl kc]] W fun e w' => e = .returned (.bool false) ∧ Below W.heap.size W w')) :
   Calls Tryz.prog 10 #[.agg #[.int .i64 o, .int .i64 vk, .int .i64 vn, .int .i64 vs, .string q, .int .i64 vm, .string r, .slice B kl kc], .slice A N c] w fun e w' => e = .returned (.tuple #[.agg #[.int .i64 0, .int .i64 0, .int .i64 0, .string ⟨#[]⟩, .int .i64 0], .int .i64 2]) ∧ Below w.heap.size w w' := by
 have k0 : Blk ((w.alloc (.cells #[.int .i64 o, .int .i64 vk, .int .i64 vn, .int .i64 vs, .string q, .int .i64 vm, .string r, .slice B kl kc] 33)).alloc (.cells #[.int .i64 0, .int .i64 0, .int .i64 0, .string ⟨#[]⟩, .int .i64 0] 25)) w.heap.size 33 #[.int .i64 o, .int .i64 vk, .int .i64 vn, .int .i64 vs, .string q, .int .i64 vm, .string r, .slice B kl kc] := (Blk.new _ _ _).alloc _
 have r0 : Blk ((w.alloc (.cells #[.int .i64 o, .int .i64 vk, .int .i64 vn, .int .i64 vs, .string q, .int .i64 vm, .string r, .slice B kl kc] 33)).alloc (.cells #[.int .i64 0, .int .i64 0, .int .i64 0, .string ⟨#[]⟩, .int .i64 0] 25)) (w.heap.size + 1) 25 #[.int .i64 0, .int .i64 0, .int .i64 0, .string ⟨#[]⟩, .int .i64 0] := Blk.new' _ _ _ (by simp)
 have K0 := Lib.hid k0
 have R0 := Lib.hid r0
 have hb00 : Below w.heap.size w ((w.alloc (.cells #[.int .i64 o, .int .i64 vk, .int .i64 vn, .int .i64 vs, .string q, .int .i64 vm, .string r, .slice B kl kc] 33)).alloc (.cells #[.int .i64 0, .int .i64 0, .int .i64 0, .string ⟨#[]⟩, .int .i64 0] 25)) := by (repeat' first | (with_reducible first | exact .refl _ _ | assumption | apply balloc | apply Below.drew | apply bset | refine bstep ?_ ‹_› | refine bturn ?_ ‹_› ?_) | go_size)
 go_enter Tryz.func10, Tryz.ntmps10
 obtain ⟨hlu, hllu, qu0, qu1, qu2, qu3, qu4, qu5, qu6, qu7, zu0, zu1, zu2, zu3, zu4, zu5, zu6, zu7⟩ := bf8 k0; (try simp at qu0 qu1 qu2 qu3 qu4 qu5 qu6 qu7); have Hk0 := Lib.hid k0; clear k0
 go_wp2_with fail
 refine (KS.out _ hb00).mono ?_
 rintro e w1 ⟨rfl, hb1⟩
 have hb01 := bstep hb00 hb1
 have k1 := K0.out.step hb1
 have K1 := Lib.hid k1
 have R1 := Lib.hid (R0.out.step hb1)
 clear qu0 zu0 qu1 zu1 qu2 zu2 qu3 zu3 qu4 zu4 qu5 zu5 qu6 zu6 qu7 zu7 hlu hllu
 clear Hk0 K0 R0 hb1 hb00
 obtain ⟨n0, n1, n2, n3, n4, hnl⟩ := HN.out.step hb01
 have hnll := lts hnl
 have r9 := R1.out
 go_wp2_with (refine wpList_store_blk r9 rfl _ _ _ (by rfl) _ (by rfl) (by rfl) (by repeat first | with_reducible first | exact r9 | apply Blk.alloc | apply Blk.drew | refine Blk.far ?_ (by simp <;> omega) _ | refine Blk.turn ?_ ‹_› (by omega)) (by rfl) (by kernel_rfl) (by simp [Value.oneCell']) ?_; intro wt r9n ht)
 refine ret_blk2 rfl r9n rfl Tryz.underlying25 rfl (by kernel_rfl) rfl ?_
 exact ⟨rfl, bturn hb01 ht (by omega)⟩
theorem E_no2 (o vk vn vs vm : Int) (q r : ByteArray) (B : Option Addr) (kl kc : Nat) (A : Option Addr) (N c : Nat) (w : World) (HN : Hid (NU w))
   (KS : Hid (∀ W, Below w.heap.size w W → Calls Tryz.prog 29 #[.agg #[.int .i64 o, .int .i64 vk, .int .i64 vn, .int .i64 vs, .string q, .int .i64 vm, .string r, .slice B kl kc]] W fun e w' => e = .returned (.bool true) ∧ Below W.heap.size W w'))
   (KC : Hid (∀ W, Below w.heap.size w W → Calls Tryz.prog 30 #[.slice A N c, .func (.func 31) #[] #[]] W fun e w' => e = .returned (.bool true) ∧ Below W.heap.size W w')) :
   Calls Tryz.prog 10 #[.agg #[.int .i64 o, .int .i64 vk, .int .i64 vn, .int .i64 vs, .string q, .int .i64 vm, .string r, .slice B kl kc], .slice A N c] w fun e w' => e = .returned (.tuple #[.agg #[.int .i64 0, .int .i64 0, .int .i64 0, .string ⟨#[]⟩, .int .i64 0], .int .i64 2]) ∧ Below w.heap.size w w' := by
 have k0 : Blk ((w.alloc (.cells #[.int .i64 o, .int .i64 vk, .int .i64 vn, .int .i64 vs, .string q, .int .i64 vm, .string r, .slice B kl kc] 33)).alloc (.cells #[.int .i64 0, .int .i64 0, .int .i64 0, .string ⟨#[]⟩, .int .i64 0] 25)) w.heap.size 33 #[.int .i64 o, .int .i64 vk, .int .i64 vn, .int .i64 vs, .string q, .int .i64 vm, .string r, .slice B kl kc] := (Blk.new _ _ _).alloc _
 have r0 : Blk ((w.alloc (.cells #[.int .i64 o, .int .i64 vk, .int .i64 vn, .int .i64 vs, .string q, .int .i64 vm, .string r, .slice B kl kc] 33)).alloc (.cells #[.int .i64 0, .int .i64 0, .int .i64 0, .string ⟨#[]⟩, .int .i64 0] 25)) (w.heap.size + 1) 25 #[.int .i64 0, .int .i64 0, .int .i64 0, .string ⟨#[]⟩, .int .i64 0] := Blk.new' _ _ _ (by simp)
 have K0 := Lib.hid k0
 have R0 := Lib.hid r0
 have hb00 : Below w.heap.size w ((w.alloc (.cells #[.int .i64 o, .int .i64 vk, .int .i64 vn, .int .i64 vs, .string q, .int .i64 vm, .string r, .slice B kl kc] 33)).alloc (.cells #[.int .i64 0, .int .i64 0, .int .i64 0, .string ⟨#[]⟩, .int .i64 0] 25)) := by (repeat' first | (with_reducible first | exact .refl _ _ | assumption | apply balloc | apply Below.drew | apply bset | refine bstep ?_ ‹_› | refine bturn ?_ ‹_› ?_) | go_size)
 go_enter Tryz.func10, Tryz.ntmps10
 obtain ⟨hlu, hllu, qu0, qu1, qu2, qu3, qu4, qu5, qu6, qu7, zu0, zu1, zu2, zu3, zu4, zu5, zu6, zu7⟩ := bf8 k0; (try simp at qu0 qu1 qu2 qu3 qu4 qu5 qu6 qu7); have Hk0 := Lib.hid k0; clear k0
 go_wp2_with fail
 refine (KS.out _ hb00).mono ?_
 rintro e w1 ⟨rfl, hb1⟩
 have hb01 := bstep hb00 hb1
 have k1 := K0.out.step hb1
 have K1 := Lib.hid k1
 have R1 := Lib.hid (R0.out.step hb1)
 clear qu0 zu0 qu1 zu1 qu2 zu2 qu3 zu3 qu4 zu4 qu5 zu5 qu6 zu6 qu7 zu7 hlu hllu
 clear Hk0 K0 R0 hb1 hb00
 go_wp2_with fail
 refine (KC.out _ hb01).mono ?_
 rintro e w2 ⟨rfl, hb2⟩
 have hb02 := bstep hb01 hb2
 have R2 := Lib.hid (R1.out.step hb2)
 clear R1 hb2 k1
 obtain ⟨n0, n1, n2, n3, n4, hnl⟩ := HN.out.step hb02
 have hnll := lts hnl
 have r9 := R2.out
 go_wp2_with (refine wpList_store_blk r9 rfl _ _ _ (by rfl) _ (by rfl) (by rfl) (by repeat first | with_reducible first | exact r9 | apply Blk.alloc | apply Blk.drew | refine Blk.far ?_ (by simp <;> omega) _ | refine Blk.turn ?_ ‹_› (by omega)) (by rfl) (by kernel_rfl) (by simp [Value.oneCell']) ?_; intro wt r9n ht)
 refine ret_blk2 rfl r9n rfl Tryz.underlying25 rfl (by kernel_rfl) rfl ?_
 exact ⟨rfl, bturn hb02 ht (by omega)⟩
theorem E_go (o vk vn vs vm : Int) (q r : ByteArray) (B : Option Addr) (kl kc : Nat) (A : Option Addr) (N c : Nat) (NL : List Bs) (P : Bs → Bool) (hNL : (NL.length : Int) ≤ 9223372036854775807) (rk rn rs rm : Int) (rq : ByteArray) (w : World) (HN : Hid (NU w))
   (KS : Hid (∀ W, Below w.heap.size w W → Calls Tryz.prog 29 #[.agg #[.int .i64 o, .int .i64 vk, .int .i64 vn, .int .i64 vs, .string q, .int .i64 vm, .string r, .slice B kl kc]] W fun e w' => e = .returned (.bool true) ∧ Below W.heap.size W w'))
   (KC : Hid (∀ W, Below w.heap.size w W → Calls Tryz.prog 30 #[.slice A N c, .func (.func 31) #[] #[]] W fun e w' => e = .returned (.bool false) ∧ Below W.heap.size W w'))
   (KN : Hid (∀ W, Below w.heap.size w W → Calls Tryz.prog 14 #[.agg #[.int .i64 o, .int .i64 vk, .int .i64 vn, .int .i64 vs, .string q, .int .i64 vm, .string r, .slice B kl kc]] W fun e w' => (∃ G cc, e = .returned (.slice G NL.length cc) ∧ RM clN 1 w' G NL) ∧ Below W.heap.size W w'))
   (KD : Hid (∀ (D : Nat) (n : Bs) W, Below w.heap.size w W → W.cell? ⟨D, 0, none⟩ = some (.string (bs n)) → Calls Tryz.prog 30 #[.slice A N c, .func (.func 33) #[] #[.pointer (some ⟨D, 0, none⟩)]] W fun e w' => e = .returned (.bool (P n)) ∧ Below W.heap.size W w'))
   (KE : Hid (NL.all P = true → ∀ W, Below w.heap.size w W → Calls Tryz.prog 34 #[.slice A N c, .agg #[.int .i64 o, .int .i64 vk, .int .i64 vn, .int .i64 vs, .string q, .int .i64 vm, .string r, .slice B kl kc]] W fun e w' => e = .returned (.agg #[.int .i64 rk, .int .i64 rn, .int .i64 rs, .string rq, .int .i64 rm]) ∧ Below W.heap.size W w')) :
   Calls Tryz.prog 10 #[.agg #[.int .i64 o, .int .i64 vk, .int .i64 vn, .int .i64 vs, .string q, .int .i64 vm, .string r, .slice B kl kc], .slice A N c] w fun e w' => e = .returned (.tuple (if NL.all P = true then #[.agg #[.int .i64 rk, .int .i64 rn, .int .i64 rs, .string rq, .int .i64 rm], .int .i64 0] else #[.agg #[.int .i64 0, .int .i64 0, .int .i64 0, .string ⟨#[]⟩, .int .i64 0], .int .i64 7])) ∧ Below w.heap.size w w' := by
 obtain ⟨R, hR⟩ : ∃ R, (if NL.all P = true then #[.agg #[.int .i64 rk, .int .i64 rn, .int .i64 rs, .string rq, .int .i64 rm], .int .i64 0] else #[.agg #[.int .i64 0, .int .i64 0, .int .i64 0, .string ⟨#[]⟩, .int .i64 0], .int .i64 7] : Array Value) = R := ⟨_, rfl⟩
 rw [hR]
 have HR := Lib.hid hR
 clear hR
 have k0 : Blk ((w.alloc (.cells #[.int .i64 o, .int .i64 vk, .int .i64 vn, .int .i64 vs, .string q, .int .i64 vm, .string r, .slice B kl kc] 33)).alloc (.cells #[.int .i64 0, .int .i64 0, .int .i64 0, .string ⟨#[]⟩, .int .i64 0] 25)) w.heap.size 33 #[.int .i64 o, .int .i64 vk, .int .i64 vn, .int .i64 vs, .string q, .int .i64 vm, .string r, .slice B kl kc] := (Blk.new _ _ _).alloc _
 have r0 : Blk ((w.alloc (.cells #[.int .i64 o, .int .i64 vk, .int .i64 vn, .int .i64 vs, .string q, .int .i64 vm, .string r, .slice B kl kc] 33)).alloc (.cells #[.int .i64 0, .int .i64 0, .int .i64 0, .string ⟨#[]⟩, .int .i64 0] 25)) (w.heap.size + 1) 25 #[.int .i64 0, .int .i64 0, .int .i64 0, .string ⟨#[]⟩, .int .i64 0] := Blk.new' _ _ _ (by simp)
 have K0 := Lib.hid k0
 have R0 := Lib.hid r0
 have hb00 : Below w.heap.size w ((w.alloc (.cells #[.int .i64 o, .int .i64 vk, .int .i64 vn, .int .i64 vs, .string q, .int .i64 vm, .string r, .slice B kl kc] 33)).alloc (.cells #[.int .i64 0, .int .i64 0, .int .i64 0, .string ⟨#[]⟩, .int .i64 0] 25)) := by (repeat' first | (with_reducible first | exact .refl _ _ | assumption | apply balloc | apply Below.drew | apply bset | refine bstep ?_ ‹_› | refine bturn ?_ ‹_› ?_) | go_size)
 go_enter Tryz.func10, Tryz.ntmps10
 obtain ⟨hlu, hllu, qu0, qu1, qu2, qu3, qu4, qu5, qu6, qu7, zu0, zu1, zu2, zu3, zu4, zu5, zu6, zu7⟩ := bf8 k0; (try simp at qu0 qu1 qu2 qu3 qu4 qu5 qu6 qu7); have Hk0 := Lib.hid k0; clear k0
 go_wp2_with fail
 refine (KS.out _ hb00).mono ?_
 rintro e w1 ⟨rfl, hb1⟩
 have hb01 := bstep hb00 hb1
 have k1 := K0.out.step hb1
 have K1 := Lib.hid k1
 have R1 := Lib.hid (R0.out.step hb1)
 clear qu0 zu0 qu1 zu1 qu2 zu2 qu3 zu3 qu4 zu4 qu5 zu5 qu6 zu6 qu7 zu7 hlu hllu
 clear Hk0 K0 R0 hb1 hb00
 go_wp2_with fail
 refine (KC.out _ hb01).mono ?_
 rintro e w2 ⟨rfl, hb2⟩
 have hb02 := bstep hb01 hb2
 have k2 := K1.out.step hb2
 have K2 := Lib.hid k2
 have R2 := Lib.hid (R1.out.step hb2)
 clear R1 K1 hb2 k1
 obtain ⟨hlu, hllu, qu0, qu1, qu2, qu3, qu4, qu5, qu6, qu7, zu0, zu1, zu2, zu3, zu4, zu5, zu6, zu7⟩ := bf8 k2; (try simp at qu0 qu1 qu2 qu3 qu4 qu5 qu6 qu7); have Hk2 := Lib.hid k2; clear k2
 go_wp2_with fail
 refine (KN.out _ hb02).mono ?_
 rintro e w3 ⟨⟨G, cc, rfl, hG⟩, hb3⟩
 have hb03 := bstep hb02 hb3
 have k3 := K2.out.step hb3
 have r3 := R2.out.step hb3
 have HG := Lib.hid hG
 clear qu0 zu0 qu1 zu1 qu2 zu2 qu3 zu3 qu4 zu4 qu5 zu5 qu6 zu6 qu7 zu7 hlu hllu
 clear Hk2 K2 R2 hb3 hG KN KC KS
 go_wp2_with fail
 go_loopw [19] (fun i wr => ∃ k : Nat, k ≤ NL.length ∧ i = .int .i64 (k : Int) ∧ Below w.heap.size w wr ∧ Below w3.heap.size w3 wr ∧ Blk wr w.heap.size 33 #[.int .i64 o, .int .i64 vk, .int .i64 vn, .int .i64 vs, .string q, .int .i64 vm, .string r, .slice B kl kc] ∧ Blk wr (w.heap.size + 1) 25 #[.int .i64 0, .int .i64 0, .int .i64 0, .string ⟨#[]⟩, .int .i64 0] ∧ Hid (∀ (j : Nat) (n : Bs), j < k → NL[j]? = some n → P n = true)) (fun i _ => NL.length - (intOf i).toNat)
 case atStart => exact ⟨0, by omega, rfl, hb03, Below.refl _ _, k3, r3, Lib.hid (fun j t h => absurd h (by omega))⟩
 case round =>
   obtain ⟨k, hk, rfl, hb, hb3, kx, rx, HQ⟩ := hrel
   have KX := Lib.hid kx
   have RX := Lib.hid rx
   clear k3 r3 kx rx
   by_cases hlt : k < NL.length
   · obtain ⟨n, hn⟩ : ∃ n, NL[k]? = some n := ⟨NL[k], List.getElem?_eq_getElem hlt⟩
     have hki : (k : Int) < (NL.length : Int) := by omega
     have hkn : IntKind.i64.wrap ((k : Int) + 1) = ((k + 1 : Nat) : Int) := by rw [IntWalk.i64_in _ (by omega)]; omega
     obtain ⟨g, off, rfl, hc⟩ := HG.out k n hn
     have c0 := keep1 hb3 (hc 0 _ rfl)
     rw [Nat.mul_one, Nat.add_zero] at c0
     obtain ⟨b, hbb⟩ : ∃ b, P n = b := ⟨_, rfl⟩
     have KD1 := Lib.hid (fun D W h1 h2 => KD.out D n W h1 h2)
     rw [hbb] at KD1
     have HY : Hid (b = true → ∀ (j : Nat) (t : Bs), j < k + 1 → NL[j]? = some t → P t = true) := Lib.hid (fun h j u hj hu => by
       by_cases he : j = k
       · subst he
         rw [hn] at hu
         injection hu with hu
         rw [← hu, hbb, h]
       · exact HQ.out j u (by omega) hu)
     have HF : Hid (b = false → R = #[.agg #[.int .i64 0, .int .i64 0, .int .i64 0, .string ⟨#[]⟩, .int .i64 0], .int .i64 7]) := Lib.hid (fun h => by
       rw [← HR.out, if_neg]
       intro ha
       have := List.all_eq_true.1 ha n (List.mem_of_getElem? hn)
       rw [hbb, h] at this
       cases this)
     obtain ⟨S, hS⟩ : ∃ S, bs n = S := ⟨_, rfl⟩
     rw [hS] at c0 KD1
     clear hn hbb hS hc HQ
     have hbW : Below w.heap.size w (wr.alloc (.cells #[.string S] 9)) := balloc hb _
     go_wp2_with fail
     refine (KD1.out _ _ hbW (by simp)).mono ?_
     rintro e w4 ⟨rfl, hb4⟩
     have hb04 := bstep hbW hb4
     have k4 := (KX.out.alloc (.cells #[.string S] 9)).step hb4
     have R4 := Lib.hid ((RX.out.alloc (.cells #[.string S] 9)).step hb4)
     have hb34 := bstep (balloc hb3 (.cells #[.string S] 9)) hb4
     clear c0 hbW
     cases b with
     | false =>
       obtain ⟨n0, n1, n2, n3, n4, hnl⟩ := HN.out.step hb04
       have hnll := lts hnl
       have r9 := R4.out
       go_wp2_with (refine wpList_store_blk r9 rfl _ _ _ (by rfl) _ (by rfl) (by rfl) (by repeat first | with_reducible first | exact r9 | apply Blk.alloc | apply Blk.drew | refine Blk.far ?_ (by simp <;> omega) _ | refine Blk.turn ?_ ‹_› (by omega)) (by rfl) (by kernel_rfl) (by simp [Value.oneCell']) ?_; intro wt r9n ht)
       refine ret_blk2 rfl r9n rfl Tryz.underlying25 rfl (by kernel_rfl) rfl ?_
       exact ⟨by rw [HF.out (by simp)]; rfl, bturn hb04 ht (by omega)⟩
     | true =>
       go_wp2_with fail
       go_roundw
       case rel => exact ⟨k + 1, by omega, by go_num, hb04, hb34, k4, R4.out, Lib.hid (HY.out (by simp))⟩
       case measure => simp [intOf]; omega
   · obtain rfl : k = NL.length := by omega
     have hall : NL.all P = true := List.all_eq_true.2 fun n hn => by
       obtain ⟨j, hj⟩ := List.mem_iff_getElem?.1 hn
       exact HQ.out j n (List.getElem?_eq_some_iff.1 hj).1 hj
     have KE1 := Lib.hid (KE.out hall)
     have HT : Hid (R = #[.agg #[.int .i64 rk, .int .i64 rn, .int .i64 rs, .string rq, .int .i64 rm], .int .i64 0]) := Lib.hid (by rw [← HR.out, if_pos hall])
     have kx := KX.out
     clear hall hlt HQ
     obtain ⟨hlu, hllu, qu0, qu1, qu2, qu3, qu4, qu5, qu6, qu7, zu0, zu1, zu2, zu3, zu4, zu5, zu6, zu7⟩ := bf8 kx; (try simp at qu0 qu1 qu2 qu3 qu4 qu5 qu6 qu7); have Hkx := Lib.hid kx; clear kx
     go_wp2_with fail
     refine (KE1.out _ hb).mono ?_
     rintro e w5 ⟨rfl, hb5⟩
     have hb05 := bstep hb hb5
     have r5 := RX.out.step hb5
     clear qu0 zu0 qu1 zu1 qu2 zu2 qu3 zu3 qu4 zu4 qu5 zu5 qu6 zu6 qu7 zu7 hlu hllu
     go_wp2_with (refine wpList_store_blk r5 rfl _ _ _ (by rfl) _ (by rfl) (by rfl) (by repeat first | with_reducible first | exact r5 | apply Blk.alloc | apply Blk.drew | refine Blk.far ?_ (by simp <;> omega) _ | refine Blk.turn ?_ ‹_› (by omega)) (by rfl) (by kernel_rfl) (by simp [Value.oneCell']) ?_; intro wt r5n ht)
     refine ret_blk2 rfl r5n rfl Tryz.underlying25 rfl (by kernel_rfl) rfl ?_
     exact ⟨by rw [HT.out]; rfl, bturn hb05 ht (by omega)⟩
theorem any_not_all (L : List (Bs × Vl)) : L.any (fun b => !sd b.2) = !L.all (fun b => sd b.2) := by
 induction L with
 | nil => rfl
 | cons b r ih => rw [List.any_cons, List.all_cons, ih]; cases sd b.2 <;> rfl
/-- What calc.Eval answers, at every expression and every list of names. -/
theorem Eval_any (L : List (Bs × Vl)) (A : Option Addr) (c : Nat) (x : Ex) (cs : Array Value) (hx0 : EV x) (hL0 : ∀ b ∈ L, VOk b.2) (hlen : (L.length : Int) ≤ 9223372036854775807) (m : Int) (w : World) (hw : OKW m w) (hn : NU w) (hx : XM (fun _ => True) w x cs) (hL : RM clB 6 w A L) :
   Calls Tryz.prog 10 #[.agg cs, .slice A L.length c] w fun e w' => e = .returned (.tuple #[.agg (cellsV (evalO L x).1), .int .i64 (evalO L x).2]) ∧ Below w.heap.size w w' := by
 have KS := fun W (h : Below w.heap.size w W) => sound_any' x cs m W (hw.step h) (hx.step h) hx0
 have KC := fun W (h : Below w.heap.size w W) => bcont_e1 (fun b => !sd b.2) 0 A L c hlen W (hL.step h) (Lib.hid fun b hb W' hW' => e1clo_walk (bs b.1) (bs b.2.t) b.2.k b.2.n b.2.s b.2.m (sd b.2) W' (Lib.hid fun W2 hW2 => sd_any b.2 (hL0 b hb) m W2 (hw.step (bstep (bstep h hW') hW2))))
 rw [any_not_all] at KC
 obtain ⟨C, kc, hcs, hkd⟩ := hx.kd
 by_cases hs : soundX x = true
 · rw [hs] at KS
   by_cases ha : (L.all fun b => sd b.2) = true
   · rw [ha, Bool.not_true] at KC
     have hES := ((soundX_iff x).1 hs)
     have hsL : ∀ b ∈ L, vSound b.2 := fun b hb => (sd_iff _).1 (List.all_eq_true.1 ha b hb)
     have hcnt := nms_len hES.1
     have KN := fun W (h : Below w.heap.size w W) => Names_any x cs hs m W (hw.step h) (hx.step h) hx0
     have KD := fun (D : Nat) (n : Bs) W (h : Below w.heap.size w W) (hc : W.cell? ⟨D, 0, none⟩ = some (.string (bs n))) => bcont_e2 (fun b => b.1 == n) D A L c hlen W (hL.step h) (Lib.hid fun b _ W' hW' => e2clo_walk (bs b.1) (bs n) (bs b.2.t) b.2.k b.2.n b.2.s b.2.m _ (by rw [bs_toList, bs_toList]) D W' (keep1 hW' hc))
     have hall : ((nmL x).all fun n => boundB L n) = (nmsE x).all fun n => boundB L n := by
       rw [Bool.eq_iff_iff, List.all_eq_true, List.all_eq_true]
       exact ⟨fun h n hn => h n ((nmL_mem x n).2 hn), fun h n hn => h n ((nmL_mem x n).1 hn)⟩
     have hlN : ((nmL x).length : Int) ≤ 9223372036854775807 := by have := nmL_len x; omega
     have KE := fun (h : ((nmL x).all fun n => boundB L n) = true) W (hW : Below w.heap.size w W) => eval_all L A c m w hw hn hL hlen hsL hES.1 (List.all_eq_true.1 (hall ▸ h)) cs W hx hW
     have e : evalO L x = if ((nmsE x).all fun n => boundB L n) = true then (evalE L x, 0) else (zeroV, 7) := by unfold evalO; rw [hs, ha, if_pos (by decide)]
     rw [e, ← hall]
     subst hcs
     have h := E_go x.op x.v.k x.v.n x.v.s x.v.m (bs x.v.t) (bs x.nm) C x.kids.length kc A L.length c (nmL x) (boundB L) hlN _ _ _ _ _ w (Lib.hid hn) (Lib.hid KS) (Lib.hid KC) (Lib.hid KN) (Lib.hid KD) (Lib.hid KE)
     refine h.mono ?_
     rintro e w' ⟨rfl, hb⟩
     refine ⟨?_, hb⟩
     split <;> rfl
   · have ha' : (L.all fun b => sd b.2) = false := by simpa using ha
     rw [ha', Bool.not_false] at KC
     have e : evalO L x = (zeroV, 2) := by unfold evalO; rw [hs, ha', if_neg (by decide)]
     rw [e]
     subst hcs
     exact E_no2 x.op x.v.k x.v.n x.v.s x.v.m (bs x.v.t) (bs x.nm) C x.kids.length kc A L.length c w (Lib.hid hn) (Lib.hid KS) (Lib.hid KC)
 · have hs' : soundX x = false := by simpa using hs
   rw [hs'] at KS
   have e : evalO L x = (zeroV, 2) := by unfold evalO; rw [hs', if_neg (by simp)]
   rw [e]
   subst hcs
   exact E_no1 x.op x.v.k x.v.n x.v.s x.v.m (bs x.v.t) (bs x.nm) C x.kids.length kc A L.length c w (Lib.hid hn) (Lib.hid KS)
end Go.Proofs.YtapilekangmcoaaGreatDoor
