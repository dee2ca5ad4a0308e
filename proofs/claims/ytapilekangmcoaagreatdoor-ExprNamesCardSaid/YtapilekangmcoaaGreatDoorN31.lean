/- The walk of expr.Names. -/
import Derived.Lib.RowBridge
import Derived.Test.YtapilekangmcoaaGreatDoorN29
import Derived.Test.YtapilekangmcoaaGreatDoorN30
import Derived.Test.YtapilekangmcoaaGreatDoorN23
set_option linter.unusedVariables false
set_option linter.unusedSimpArgs false
set_option maxHeartbeats 8000000
set_option maxRecDepth 100000
namespace Go.Proofs.YtapilekangmcoaaGreatDoor
open Go.RowKit Go.Sort
set_option maxHeartbeats 4000000 in
theorem clip_any (A : Option Addr) (n c : Nat) (hn : n ≤ c) (hc : (n : Int) ≤ 9223372036854775807) (w : World) : Calls Tryz.prog 38 #[.slice A n c] w fun e w' => (∃ cc, e = .returned (.slice A n cc)) ∧ w = w' := by
 have h1 : (n : Int) ≤ (c : Int) := by omega
 go_enter Tryz.func38, Tryz.ntmps38
 go_wp2_with fail
 go_returns
 exact ⟨⟨_, rfl⟩, rfl⟩
section
variable (o vk vn vs vm : Int) (q r : ByteArray) (B : Option Addr) (kl kc : Nat) (w : World)
set_option maxHeartbeats 4000000 in
theorem Nm_no
   (KS : Hid (∀ W, Below w.heap.size w W → Calls Tryz.prog 29 #[.agg #[.int .i64 o, .int .i64 vk, .int .i64 vn, .int .i64 vs, .string q, .int .i64 vm, .string r, .slice B kl kc]] W fun e w' => e = .returned (.bool false) ∧ Below W.heap.size W w')) :
   Calls Tryz.prog 14 #[.agg #[.int .i64 o, .int .i64 vk, .int .i64 vn, .int .i64 vs, .string q, .int .i64 vm, .string r, .slice B kl kc]] w fun e w' => e = .returned (.slice none 0 0) ∧ Below w.heap.size w w' := by
 have k0 : Blk (w.alloc (.cells #[.int .i64 o, .int .i64 vk, .int .i64 vn, .int .i64 vs, .string q, .int .i64 vm, .string r, .slice B kl kc] 33)) w.heap.size 33 #[.int .i64 o, .int .i64 vk, .int .i64 vn, .int .i64 vs, .string q, .int .i64 vm, .string r, .slice B kl kc] := Blk.new _ _ _
 go_enter Tryz.func14, Tryz.ntmps14
 obtain ⟨hlu, hllu, qu0, qu1, qu2, qu3, qu4, qu5, qu6, qu7, zu0, zu1, zu2, zu3, zu4, zu5, zu6, zu7⟩ := bf8 k0; (try simp at qu0 qu1 qu2 qu3 qu4 qu5 qu6 qu7); have Hk0 := Lib.hid k0; clear k0
 go_wp2_with fail
 refine (KS.out _ (by (repeat' first | (with_reducible first | exact .refl _ _ | assumption | apply balloc | apply Below.drew | apply bset | refine bstep ?_ ‹_› | refine bturn ?_ ‹_› ?_) | go_size))).mono ?_
 rintro e w1 ⟨rfl, hb1⟩
 go_wp2_with fail
 go_returns
 exact ⟨rfl, by (repeat' first | (with_reducible first | exact .refl _ _ | assumption | apply balloc | apply Below.drew | apply bset | refine bstep ?_ ‹_› | refine bturn ?_ ‹_› ?_) | go_size)⟩
theorem Nm_yes (l : List Bs) (hl : l.length ≤ 1000000)
   (KS : Hid (∀ W, Below w.heap.size w W → Calls Tryz.prog 29 #[.agg #[.int .i64 o, .int .i64 vk, .int .i64 vn, .int .i64 vs, .string q, .int .i64 vm, .string r, .slice B kl kc]] W fun e w' => e = .returned (.bool true) ∧ Below W.heap.size W w'))
   (KN : Hid (∀ W, Below w.heap.size w W → Calls Tryz.prog 36 #[.agg #[.int .i64 o, .int .i64 vk, .int .i64 vn, .int .i64 vs, .string q, .int .i64 vm, .string r, .slice B kl kc]] W fun e w' => (∃ v, e = .returned v ∧ w'.ownsRow W.heap.size 9 1 v l.length (rowL clN l)) ∧ Below W.heap.size W w')) :
   Calls Tryz.prog 14 #[.agg #[.int .i64 o, .int .i64 vk, .int .i64 vn, .int .i64 vs, .string q, .int .i64 vm, .string r, .slice B kl kc]] w fun e w' => (∃ G cc, e = .returned (.slice G (Lib.compact (l.mergeSort fun a b => decide (a ≤ b))).length cc) ∧ RM clN 1 w' G (Lib.compact (l.mergeSort fun a b => decide (a ≤ b)))) ∧ Below w.heap.size w w' := by
 obtain ⟨M, hM⟩ : ∃ M, (l.mergeSort fun a b => decide (a ≤ b)) = M := ⟨_, rfl⟩
 have hMl : M.length = l.length := by rw [← hM, List.length_mergeSort]
 have HM := Lib.hid hM
 have hcl := Lib.compact_length_le M
 obtain ⟨R, hR⟩ : ∃ R, Lib.compact M = R := ⟨_, rfl⟩
 have k0 : Blk (w.alloc (.cells #[.int .i64 o, .int .i64 vk, .int .i64 vn, .int .i64 vs, .string q, .int .i64 vm, .string r, .slice B kl kc] 33)) w.heap.size 33 #[.int .i64 o, .int .i64 vk, .int .i64 vn, .int .i64 vs, .string q, .int .i64 vm, .string r, .slice B kl kc] := Blk.new _ _ _
 have K0 := Lib.hid k0
 have hb00 : Below w.heap.size w (w.alloc (.cells #[.int .i64 o, .int .i64 vk, .int .i64 vn, .int .i64 vs, .string q, .int .i64 vm, .string r, .slice B kl kc] 33)) := by (repeat' first | (with_reducible first | exact .refl _ _ | assumption | apply balloc | apply Below.drew | apply bset | refine bstep ?_ ‹_› | refine bturn ?_ ‹_› ?_) | go_size)
 rw [hM, hR]
 rw [hR] at hcl
 have HR := Lib.hid hR
 clear hM hR
 go_enter Tryz.func14, Tryz.ntmps14
 obtain ⟨hlu, hllu, qu0, qu1, qu2, qu3, qu4, qu5, qu6, qu7, zu0, zu1, zu2, zu3, zu4, zu5, zu6, zu7⟩ := bf8 k0; (try simp at qu0 qu1 qu2 qu3 qu4 qu5 qu6 qu7); have Hk0 := Lib.hid k0; clear k0
 go_wp2_with fail
 refine (KS.out _ hb00).mono ?_
 rintro e w1 ⟨rfl, hb1⟩
 have hb01 := bstep hb00 hb1
 have k1 := K0.out.step hb1
 clear qu0 qu1 qu2 qu3 qu4 qu5 qu6 qu7 zu0 zu1 zu2 zu3 zu4 zu5 zu6 zu7 hlu hllu Hk0 K0 hb1 hb00
 obtain ⟨hlu, hllu, qu0, qu1, qu2, qu3, qu4, qu5, qu6, qu7, zu0, zu1, zu2, zu3, zu4, zu5, zu6, zu7⟩ := bf8 k1; (try simp at qu0 qu1 qu2 qu3 qu4 qu5 qu6 qu7); have Hk1 := Lib.hid k1; clear k1
 go_wp2_with fail
 refine (KN.out _ hb01).mono ?_
 rintro e w2 ⟨⟨v, rfl, hv⟩, hb2⟩
 have hb02 := bstep hb01 hb2
 have hz1 := hb01.size
 clear qu0 qu1 qu2 qu3 qu4 qu5 qu6 qu7 zu0 zu1 zu2 zu3 zu4 zu5 zu6 zu7 hlu hllu Hk1 hb2 hb01
 obtain ⟨A, c, rfl, _, hlc, hcm, hA⟩ := own_rm clN_len hv rfl
 have HV := Lib.hid hv
 clear hv
 rcases Nat.eq_zero_or_pos l.length with h0 | h0
 · have hl0 : l = [] := List.eq_nil_of_length_eq_zero h0
   have hM0 : M = [] := List.eq_nil_of_length_eq_zero (by omega)
   have hR0 : R = [] := by
     rw [← HR.out, hM0]
     rfl
   subst hl0 hM0 hR0
   go_wp2_with fail
   refine (Tryz.slices_Sort_string_none A c w2).mono ?_
   rintro e w3 ⟨rfl, rfl⟩
   go_wp2_with fail
   refine (Tryz.slices_Compact_string_empty A c _).mono ?_
   rintro e w4 ⟨rfl, rfl⟩
   go_wp2_with fail
   refine (clip_any A 0 c (Nat.zero_le _) (by decide) _).mono ?_
   rintro e w5 ⟨⟨cc, rfl⟩, rfl⟩
   go_wp2_with fail
   go_returns
   exact ⟨⟨A, cc, rfl, RM.nil _ _⟩, hb02⟩
 · obtain ⟨g, cap, hgc, hgb, hgl⟩ := HV.out.form h0
   injection hgc with e1 _ e3
   subst e1 e3
   obtain ⟨hH, _, hlt, _⟩ := holds_own HV.out rfl
   have KSo := Lib.hid (Tryz.slices_Sort_string g 0 c l w2 hH hlt (by omega))
   rw [HM.out] at KSo
   go_wp2_with fail
   refine (KSo.out).mono ?_
   rintro e w3 ⟨rfl, n, os, hw3⟩
   have hH1 : Holds encStr (putRow encStr (Sort.ahead w2 n) g 0 M.toArray) g 0 M.toArray := holds_putRow encStr _ g 0 l.toArray M.toArray (holds_ahead encStr w2 n g 0 _ hH) (by simpa using hMl)
   have hH3 : Holds encStr w3 g 0 M.toArray := by
     rw [hw3]
     exact holds_grow encStr _ os g 0 _ (by rw [size_putRow]; exact hlt) hH1
   have hb03 : Below w.heap.size w w3 := by
     rw [hw3]
     exact below_put hb02 (by omega)
   have KCo := Lib.hid (Tryz.slices_Compact_string g 0 c M w3 hH3 (by omega) (by omega))
   rw [HR.out, hMl] at KCo
   have HH3 := Lib.hid hH3
   clear hw3 hH1 hH3 KSo hH
   go_wp2_with fail
   refine (KCo.out).mono ?_
   rintro e w4 ⟨rfl, n2, hw4⟩
   have hb04 : Below w.heap.size w w4 := by
     rw [hw4]
     exact below_put0 hb03 (by omega)
   have hRM : RM clN 1 w4 (some ⟨g, 0, none⟩) R := by
     rw [hw4]
     exact rm_holds (holds_putRow encStr _ g 0 M.toArray _ (holds_ahead encStr w3 n2 g 0 _ HH3.out) (by simp; omega))
   have HRM := Lib.hid hRM
   clear hw4 hRM KCo HH3
   go_wp2_with fail
   refine (clip_any (some ⟨g, 0, none⟩) R.length c (by omega) (by omega) _).mono ?_
   rintro e w5 ⟨⟨cc, rfl⟩, rfl⟩
   go_wp2_with fail
   go_returns
   exact ⟨⟨_, cc, rfl, HRM.out⟩, hb04⟩
end
theorem Names_any (x : Ex) (cs : Array Value) (hs : soundX x = true) (m : Int) (w : World) (hw : OKW m w) (hx : XM (fun _ => True) w x cs) (hx0 : EV x) :
   Calls Tryz.prog 14 #[.agg cs] w fun e w' => (∃ G cc, e = .returned (.slice G (nmL x).length cc) ∧ RM clN 1 w' G (nmL x)) ∧ Below w.heap.size w w' := by
 have KS := fun W (h : Below w.heap.size w W) => sound_any' x cs m W (hw.step h) (hx.step h) hx0
 rw [hs] at KS
 have hES := (soundX_iff x).1 hs
 have hcnt := nms_len hES.1
 have KN := fun W (h : Below w.heap.size w W) => names_all w hES.1 cs W hx h (by omega)
 obtain ⟨C, kc, hcs, _⟩ := hx.kd
 subst hcs
 exact Nm_yes x.op x.v.k x.v.n x.v.s x.v.m (bs x.v.t) (bs x.nm) C x.kids.length kc w (nmsE x) (by omega) (Lib.hid KS) (Lib.hid KN)
theorem Names_no (x : Ex) (cs : Array Value) (hs : soundX x = false) (m : Int) (w : World) (hw : OKW m w) (hx : XM (fun _ => True) w x cs) (hx0 : EV x) :
   Calls Tryz.prog 14 #[.agg cs] w fun e w' => e = .returned (.slice none 0 0) ∧ Below w.heap.size w w' := by
 have KS := fun W (h : Below w.heap.size w W) => sound_any' x cs m W (hw.step h) (hx.step h) hx0
 rw [hs] at KS
 obtain ⟨C, kc, hcs, _⟩ := hx.kd
 subst hcs
 exact Nm_no x.op x.v.k x.v.n x.v.s x.v.m (bs x.v.t) (bs x.nm) C x.kids.length kc w (Lib.hid KS)
end Go.Proofs.YtapilekangmcoaaGreatDoor
