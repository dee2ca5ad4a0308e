/- The walk of the law CalcSound where all that it asks is met. -/
import Derived.Test.YtapilekangmcoaaGreatDoorA53
import Derived.Test.YtapilekangmcoaaGreatDoorA30
set_option linter.unusedVariables false
set_option linter.unusedSimpArgs false
set_option maxHeartbeats 8000000
set_option maxRecDepth 100000
namespace Go.Proofs.YtapilekangmcoaaGreatDoor
open Go.RowKit Go.Shelf
attribute [local go_sem high] run_vl_eql run_vl_neq
theorem vlq_self (k n s m : Int) (q : ByteArray) : vlq k n s q m k n s q m = true := by simp [vlq]
theorem info_bnd : (Tryz.prog.info? 27).map (fun i => (i.zero, i.size, i.bytes)) = some (some (.agg #[.string ⟨#[]⟩, .int .i64 0, .int .i64 0, .int .i64 0, .string ⟨#[]⟩, .int .i64 0]), 6, 64) := by kernel_rfl
theorem rowB_one (l : List (Bs × Vl)) : ∀ u ∈ rowL clB l, u.oneCell' = true := by
 intro u hu
 obtain ⟨v, _, hv⟩ := List.mem_flatMap.1 hu
 simp [clB] at hv
 rcases hv with rfl | rfl | rfl | rfl | rfl | rfl <;> rfl
theorem blk_grown {a c : World} {g : Nat} {t : TypeId} {cs : Array Value} {v : Value} (h : Blk a g t cs) (hg : a.grownBy c v.ownBlock) (hne : v.ownBlock ≠ some g) : Blk c g t cs :=
 (hg.block g h.lt (fun hc => hne hc.symm)).trans h
theorem blk_step {a c : World} {g : Nat} {t : TypeId} {cs : Array Value} (h : Blk a g t cs) (hb : Below a.heap.size a c) : Blk c g t cs := h.step hb
theorem own_made {W : World} {g base : Nat} {T : TypeId} (h : Blk W g T #[]) (hb : base ≤ g) : W.ownsRow base T 6 (.slice (some ⟨g, 0, none⟩) 0 0) 0 [] := ⟨rfl, .inr ⟨g, 0, #[], rfl, hb, h, Nat.le_refl _, by decide, rfl, rfl⟩⟩
theorem store_step {P : Program} {w : World} {g : Nat} {T : TypeId} {cs cs' : Array Value} {op : Oper} {ops : Array Oper} {a : Act} {K : Act → World → Prop} {Q : Exit → Act → World → Prop} {E : Prop} (hgd : op.guard = none) (ty : TypeId) (x y : Operand) (ho : op.op = .store ty x y)
   (hx : a.eval x = .pointer (some ⟨g, 0, none⟩)) (hy : a.eval y = .agg cs') (hB : Blk w g T cs) (hs : cs'.size = cs.size) (hi : (P.info? ty).map (·.size) = some cs'.size) (h1 : cs'.all (·.oneCell') = true)
   (h : ∀ w1, Blk w1 g T cs' → Turned w w1 g → K (a.put op.dst undef) w1) : if Region.wanted op (yielded ops a.tmps) = true then Oper.wp P op a w K Q else E := by
 have hw : Region.wanted op (yielded ops a.tmps) = true := by simp [Region.wanted, hgd]
 rw [if_pos hw]
 exact wp_store_mid ty x y ho g 0 cs' hx hy (fun j hj => by
   rw [Nat.zero_add]
   exact ⟨by rw [hB.cell j, Array.getElem?_eq_getElem (by omega)]; rfl, hB.frozen j⟩) hi h1 (h _ (hB.setCells hs) (Turned.setCells g _ _ _))
theorem rm_bnd {w : World} {g : Nat} {T : TypeId} {b : Bs × Vl} (h : Blk w g T (clB b).toArray) : RM clB 6 w (some ⟨g, 0, none⟩) [b] := fun i t ht => by
 match i, ht with
 | 0, ht =>
   obtain rfl : b = t := by simpa using ht
   refine ⟨g, 0, rfl, fun j v hj => ?_⟩
   have h1 := h.cell j
   rw [List.getElem?_toArray, hj] at h1
   simpa using h1
 | i + 1, ht => simp at ht
theorem so_ok (o vk vn vs vm : Int) (q r : ByteArray) (B : Option Addr) (kl kc : Nat) (A : Option Addr) (N c : Nat) (nm : ByteArray) (bk bn bs' bm : Int) (bq : ByteArray) (z : Int) (hz : ¬ z < 0) (ak an as' am : Int) (aq : ByteArray) (L : List (Bs × Vl)) (b : Bs × Vl) (hL : L.length = N) (hN : N ≤ 2199023255488) (hBD : Hid (#[.string nm, .int .i64 bk, .int .i64 bn, .int .i64 bs', .string bq, .int .i64 bm] = (clB b).toArray)) (w : World)
   (KB : Hid (∀ W, Below w.heap.size w W → Calls Tryz.prog 23 #[.agg #[.int .i64 o, .int .i64 vk, .int .i64 vn, .int .i64 vs, .string q, .int .i64 vm, .string r, .slice B kl kc], .int .i64 1, .int .i64 300] W fun e w' => e = .returned (.int .i64 z) ∧ Below W.heap.size W w'))
   (HA : Hid (∀ W, Below w.heap.size w W → Calls Tryz.prog 11 #[] W fun e w' => e = .returned (.bool true) ∧ Below W.heap.size W w'))
   (KE : Hid (∀ W, Below w.heap.size w W → Calls Tryz.prog 10 #[.agg #[.int .i64 o, .int .i64 vk, .int .i64 vn, .int .i64 vs, .string q, .int .i64 vm, .string r, .slice B kl kc], .slice A N c] W fun e w' => e = .returned (.tuple #[.agg #[.int .i64 ak, .int .i64 an, .int .i64 as', .string aq, .int .i64 am], .int .i64 0]) ∧ Below W.heap.size W w'))
   (HS : Hid (∀ W, Below w.heap.size w W → Calls Tryz.prog 22 #[.agg #[.int .i64 bk, .int .i64 bn, .int .i64 bs', .string bq, .int .i64 bm]] W fun e w' => e = .returned (.bool true) ∧ Below W.heap.size W w'))
   (HV : Hid (∀ W, Below w.heap.size w W → Calls Tryz.prog 22 #[.agg #[.int .i64 ak, .int .i64 an, .int .i64 as', .string aq, .int .i64 am]] W fun e w' => e = .returned (.bool true) ∧ Below W.heap.size W w'))
   (HL : Hid (RM clB 6 w A L))
   (KV2 : Hid (∀ W A2 c2, Below w.heap.size w W → RM clB 6 W A2 (L ++ [b]) → Calls Tryz.prog 10 #[.agg #[.int .i64 o, .int .i64 vk, .int .i64 vn, .int .i64 vs, .string q, .int .i64 vm, .string r, .slice B kl kc], .slice A2 (N + 1) c2] W fun e w' => e = .returned (.tuple #[.agg #[.int .i64 ak, .int .i64 an, .int .i64 as', .string aq, .int .i64 am], .int .i64 0]) ∧ Below W.heap.size W w')) :
   Calls Tryz.prog 7 #[.agg #[.int .i64 o, .int .i64 vk, .int .i64 vn, .int .i64 vs, .string q, .int .i64 vm, .string r, .slice B kl kc], .slice A N c, .agg #[.string nm, .int .i64 bk, .int .i64 bn, .int .i64 bs', .string bq, .int .i64 bm]] w fun e w' => e = .returned (.bool true) ∧ Below w.heap.size w w' := by
 obtain ⟨i0, hi, hz0, hz1, hz2⟩ := info_parts info_bnd
 have HI := Lib.hid hi
 have HZ0 := Lib.hid hz0
 have HZ1 := Lib.hid hz1
 have HZ2 := Lib.hid hz2
 clear hi hz0 hz1 hz2
 have Kx0 : Hid (Blk ((w.alloc (.cells #[.int .i64 o, .int .i64 vk, .int .i64 vn, .int .i64 vs, .string q, .int .i64 vm, .string r, .slice B kl kc] 33)).alloc (.cells #[.string nm, .int .i64 bk, .int .i64 bn, .int .i64 bs', .string bq, .int .i64 bm] 27)) w.heap.size 33 #[.int .i64 o, .int .i64 vk, .int .i64 vn, .int .i64 vs, .string q, .int .i64 vm, .string r, .slice B kl kc]) := Lib.hid ((Blk.new _ _ _).alloc _)
 have Kb0 : Hid (Blk ((w.alloc (.cells #[.int .i64 o, .int .i64 vk, .int .i64 vn, .int .i64 vs, .string q, .int .i64 vm, .string r, .slice B kl kc] 33)).alloc (.cells #[.string nm, .int .i64 bk, .int .i64 bn, .int .i64 bs', .string bq, .int .i64 bm] 27)) (w.heap.size + 1) 27 #[.string nm, .int .i64 bk, .int .i64 bn, .int .i64 bs', .string bq, .int .i64 bm]) := Lib.hid (Blk.new' _ _ _ (by simp))
 have hb00 : Below w.heap.size w ((w.alloc (.cells #[.int .i64 o, .int .i64 vk, .int .i64 vn, .int .i64 vs, .string q, .int .i64 vm, .string r, .slice B kl kc] 33)).alloc (.cells #[.string nm, .int .i64 bk, .int .i64 bn, .int .i64 bs', .string bq, .int .i64 bm] 27)) := by (repeat' first | (with_reducible first | exact .refl _ _ | assumption | apply balloc | apply Below.drew | apply bset | refine bstep ?_ ‹_› | refine bturn ?_ ‹_› ?_) | go_size)
 go_enter Tryz.func7, Tryz.ntmps7
 go_upto_region 1 with fail
 generalize ((w.alloc (.cells #[.int .i64 o, .int .i64 vk, .int .i64 vn, .int .i64 vs, .string q, .int .i64 vm, .string r, .slice B kl kc] 33)).alloc (.cells #[.string nm, .int .i64 bk, .int .i64 bn, .int .i64 bs', .string bq, .int .i64 bm] 27)) = w0 at *
 have kx0 := Kx0.out
 obtain ⟨hlu, hllu, qu0, qu1, qu2, qu3, qu4, qu5, qu6, qu7, zu0, zu1, zu2, zu3, zu4, zu5, zu6, zu7⟩ := bf8 kx0; (try simp at qu0 qu1 qu2 qu3 qu4 qu5 qu6 qu7); have Hkx0 := Lib.hid kx0; clear kx0
 go_wp2_with fail
 refine (KB.out _ hb00).mono ?_
 rintro e w1 ⟨rfl, hb1⟩
 have hb01 := bstep hb00 hb1
 have kx1 := Kx0.out.step hb1
 have Kx1 := Lib.hid kx1
 have Kb1 := Lib.hid (Kb0.out.step hb1)
 clear qu0 zu0 qu1 zu1 qu2 zu2 qu3 zu3 qu4 zu4 qu5 zu5 qu6 zu6 qu7 zu7 hlu hllu
 clear Hkx0 Kx0 Kb0 hb1 hb00 KB
 obtain ⟨hlu, hllu, qu0, qu1, qu2, qu3, qu4, qu5, qu6, qu7, zu0, zu1, zu2, zu3, zu4, zu5, zu6, zu7⟩ := bf8 kx1; (try simp at qu0 qu1 qu2 qu3 qu4 qu5 qu6 qu7); have Hkx1 := Lib.hid kx1; clear kx1
 go_wp2_with fail
 refine (KE.out _ hb01).mono ?_
 rintro e w2 ⟨rfl, hb2⟩
 have hb02 := bstep hb01 hb2
 have kR : Blk (w2.alloc (.cells #[.int .i64 0, .int .i64 0, .int .i64 0, .string ⟨#[]⟩, .int .i64 0] 25)) w2.heap.size 25 #[.int .i64 0, .int .i64 0, .int .i64 0, .string ⟨#[]⟩, .int .i64 0] := Blk.new _ _ _
 have Kx2 := Lib.hid (Kx1.out.step hb2)
 have Kb2 := Lib.hid (Kb1.out.step hb2)
 clear qu0 zu0 qu1 zu1 qu2 zu2 qu3 zu3 qu4 zu4 qu5 zu5 qu6 zu6 qu7 zu7 hlu hllu
 clear Hkx1 Kx1 Kb1 hb2 hb01
 go_upto_region 4 with (refine wpList_store_blk kR rfl _ _ _ (by rfl) _ (by rfl) (by rfl) (by repeat first | with_reducible first | exact kR | apply Blk.alloc | apply Blk.drew | refine Blk.far ?_ (by simp <;> omega) _ | refine Blk.turn ?_ ‹_› (by omega)) (by rfl) (by kernel_rfl) (by simp [Value.oneCell']) ?_; intro wt kRn ht)
 have hb3 : Below w2.heap.size w2 wt := bturn (balloc (Below.refl _ _) _) ht (Nat.le_refl _)
 have hb03 : Below w.heap.size w wt := bstep hb02 hb3
 have Kx3 := Lib.hid (Kx2.out.step hb3)
 have Kb3 := Lib.hid (Kb2.out.step hb3)
 have Kr3 := Lib.hid kRn
 clear kR kRn ht Kx2 Kb2 hb3 hb02
 rename World => w3
 go_wp2_with fail
 refine (HA.out _ hb03).mono ?_
 rintro e w4 ⟨rfl, hb4⟩
 have hb04 := bstep hb03 hb4
 have Kx4 := Lib.hid (Kx3.out.step hb4)
 have Kb4 := Lib.hid (Kb3.out.step hb4)
 have Kr4 := Lib.hid (Kr3.out.step hb4)
 clear Kx3 Kb3 Kr3 hb4 hb03
 have kb4 := Kb4.out
 obtain ⟨hlu, hllu, qu0, qu1, qu2, qu3, qu4, qu5, zu0, zu1, zu2, zu3, zu4, zu5⟩ := bf6 kb4; (try simp at qu0 qu1 qu2 qu3 qu4 qu5); have Hkb4 := Lib.hid kb4; clear kb4
 go_wp2_with fail
 refine (HS.out _ hb04).mono ?_
 rintro e w5 ⟨rfl, hb5⟩
 have hb05 := bstep hb04 hb5
 have Kx5 := Lib.hid (Kx4.out.step hb5)
 have Kb5 := Lib.hid (Kb4.out.step hb5)
 have Kr5 := Lib.hid (Kr4.out.step hb5)
 clear qu0 zu0 qu1 zu1 qu2 zu2 qu3 zu3 qu4 zu4 qu5 zu5 hlu hllu
 clear Hkb4 Kx4 Kb4 Kr4 hb5 hb04
 have hLN := hL
 have hb05' := hb05
 clear hL
 go_upto_region 6 with fail
 go_cut [9, 10] (fun p f wx => ∃ g, p = .pointer (some ⟨g, 0, none⟩) ∧ f = .int .i64 0 ∧ Below w5.heap.size w5 wx ∧ Blk wx g 25 #[.int .i64 ak, .int .i64 an, .int .i64 as', .string aq, .int .i64 am])
 case first =>
   refine wp_region_held_drew (S := fun w' => Below w5.heap.size w5 w') (by kernel_rfl) (bdrewN (Below.refl _ _) _) (fun hHeld => ?_)
   have hE : True := trivial
   have hO : True := trivial
   have hF : True := trivial
   have hP : True := trivial
   generalize w5.drew = Wc at *
   refine' wpAnyH_take (i := 0) (oi := _) (v := _) ?hit1 ?hst1 ?hft1 ?hrt1 ?hQt1 ?hyt1 ?hSt1 ?hzt1
   case hit1 => simp only [List.getElem?_toArray, List.getElem?_cons_succ, List.getElem?_cons_zero]; rfl
   case hst1 => kernel_rfl
   case hft1 => kernel_rfl
   case hrt1 => kernel_rfl
   case hSt1 => assumption
   case hyt1 =>
     refine Or.inl ⟨by rfl, ?_⟩
     intro w hSw
     try dsimp only at hSw
     have kq := Kx5.out.step hSw
     obtain ⟨hlx, hllx, qx0, qx1, qx2, qx3, qx4, qx5, qx6, qx7, zx0, zx1, zx2, zx3, zx4, zx5, zx6, zx7⟩ := bf8 kq; (try simp at qx0 qx1 qx2 qx3 qx4 qx5 qx6 qx7); have Hkq := Lib.hid kq; clear kq
     go_simp
     all_goals with_reducible rfl
   case hQt1 => exact fun _ _ _ h => h
   try simp only [Act.put, List.setIfInBounds_toArray, List.set_cons_zero, List.set_cons_succ]
   refine' wpAnyH_take (i := 2) (oi := _) (v := _) ?hit2 ?hst2 ?hft2 ?hrt2 ?hQt2 ?hyt2 ?hSt2 ?hzt2
   case hit2 => simp only [List.getElem?_toArray, List.getElem?_cons_succ, List.getElem?_cons_zero]; rfl
   case hst2 => kernel_rfl
   case hft2 => kernel_rfl
   case hrt2 => kernel_rfl
   case hSt2 => assumption
   case hyt2 =>
     refine Or.inl ⟨by rfl, ?_⟩
     intro w hSw
     try dsimp only at hSw
     go_simp
     all_goals with_reducible rfl
   case hQt2 => exact fun _ _ _ h => h
   try simp only [Act.put, List.setIfInBounds_toArray, List.set_cons_zero, List.set_cons_succ]
   refine' wpAnyH_take (i := 4) (oi := _) (v := _) ?hit3 ?hst3 ?hft3 ?hrt3 ?hQt3 ?hyt3 ?hSt3 ?hzt3
   case hit3 => simp only [List.getElem?_toArray, List.getElem?_cons_succ, List.getElem?_cons_zero]; rfl
   case hst3 => kernel_rfl
   case hft3 => kernel_rfl
   case hrt3 => kernel_rfl
   case hSt3 => assumption
   case hyt3 =>
     refine Or.inl ⟨by rfl, ?_⟩
     intro w hSw
     try dsimp only at hSw
     have kq := Kb5.out.step hSw
     obtain ⟨hlx, hllx, qx0, qx1, qx2, qx3, qx4, qx5, zx0, zx1, zx2, zx3, zx4, zx5⟩ := bf6 kq; (try simp at qx0 qx1 qx2 qx3 qx4 qx5); have Hkq := Lib.hid kq; clear kq
     go_simp
     all_goals with_reducible rfl
   case hQt3 => exact fun _ _ _ h => h
   try simp only [Act.put, List.setIfInBounds_toArray, List.set_cons_zero, List.set_cons_succ]
   all_goals first
     | (refine wpAnyH_ready (rs := [1,5,11]) (by decide +kernel) (by simp) ?_
        refine (AllReadyH.cons (o := { dst := some 36, op := .buildSlice 28 0 #[], type := 28, pos := "law.go:84", after := #[], guard := none }) rfl (fun K hK => ?_) (AllReadyH.cons (o := { dst := some 40, op := .buildSlice 28 1 #[(0, .tmp 39)], type := 28, pos := "law.go:84", after := #[{ on := 4, ground := .data }], guard := none }) rfl (fun K hK => ?_) (AllReadyH.cons (o := { dst := some 9, op := .alloc 25, type := 0, pos := "law.go:84", after := #[], guard := none }) rfl (fun K hK => ?_) AllReadyH.nil)))
        go_simp
        have hx := hHeld
        have hbb : Below Wc.heap.size Wc (Wc.alloc (.cells #[] 27)) := balloc (Below.refl _ _) _
        have _hsz : Wc.heap.size < (Wc.alloc (.cells #[] 27)).heap.size := by simp
        have hnew : Blk (Wc.alloc (.cells #[] 27)) Wc.heap.size 27 #[] := Blk.new _ _ _
        have hx2 := bstep hx hbb
        have _h5 : w5.heap.size ≤ Wc.heap.size := hx.size
        refine hK.out _ _ hx2 (fun hHeld => ?_)
        (try replace hE := blk_step hE hbb)
        (try replace hO := own_step hO hbb)
        (try replace hF := blk_step hF hbb)
        (try replace hP := blk_step hP hbb)
        clear hE
        have hE := hnew
        clear hnew hx hx2
        generalize Wc.alloc (.cells #[] 27) = Wd at *
        rename World => Wc
        clear hK K
        try simp only [Act.put, List.setIfInBounds_toArray, List.set_cons_zero, List.set_cons_succ]
        rotate_left
        go_simp
        have hx := hHeld
        have hbb : Below Wc.heap.size Wc (Wc.alloc (.cells #[.string nm, .int .i64 bk, .int .i64 bn, .int .i64 bs', .string bq, .int .i64 bm] 27)) := balloc (Below.refl _ _) _
        have _hsz : Wc.heap.size < (Wc.alloc (.cells #[.string nm, .int .i64 bk, .int .i64 bn, .int .i64 bs', .string bq, .int .i64 bm] 27)).heap.size := by simp
        have hnew : Blk (Wc.alloc (.cells #[.string nm, .int .i64 bk, .int .i64 bn, .int .i64 bs', .string bq, .int .i64 bm] 27)) Wc.heap.size 27 #[.string nm, .int .i64 bk, .int .i64 bn, .int .i64 bs', .string bq, .int .i64 bm] := Blk.new _ _ _
        have hx2 := bstep hx hbb
        have _h5 : w5.heap.size ≤ Wc.heap.size := hx.size
        refine hK.out _ _ hx2 (fun hHeld => ?_)
        (try replace hE := blk_step hE hbb)
        (try replace hO := own_step hO hbb)
        (try replace hF := blk_step hF hbb)
        (try replace hP := blk_step hP hbb)
        clear hF
        have hF := hnew
        clear hnew hx hx2
        generalize Wc.alloc (.cells #[.string nm, .int .i64 bk, .int .i64 bn, .int .i64 bs', .string bq, .int .i64 bm] 27) = Wd at *
        rename World => Wc
        clear hK K
        try simp only [Act.put, List.setIfInBounds_toArray, List.set_cons_zero, List.set_cons_succ]
        rotate_left
        go_simp
        have hx := hHeld
        have hbb : Below Wc.heap.size Wc (Wc.alloc (.cells #[.int .i64 0, .int .i64 0, .int .i64 0, .string ⟨#[]⟩, .int .i64 0] 25)) := balloc (Below.refl _ _) _
        have _hsz : Wc.heap.size < (Wc.alloc (.cells #[.int .i64 0, .int .i64 0, .int .i64 0, .string ⟨#[]⟩, .int .i64 0] 25)).heap.size := by simp
        have hnew : Blk (Wc.alloc (.cells #[.int .i64 0, .int .i64 0, .int .i64 0, .string ⟨#[]⟩, .int .i64 0] 25)) Wc.heap.size 25 #[.int .i64 0, .int .i64 0, .int .i64 0, .string ⟨#[]⟩, .int .i64 0] := Blk.new _ _ _
        have hx2 := bstep hx hbb
        have _h5 : w5.heap.size ≤ Wc.heap.size := hx.size
        refine hK.out _ _ hx2 (fun hHeld => ?_)
        (try replace hE := blk_step hE hbb)
        (try replace hO := own_step hO hbb)
        (try replace hF := blk_step hF hbb)
        (try replace hP := blk_step hP hbb)
        clear hP
        have hP := hnew
        clear hnew hx hx2
        generalize Wc.alloc (.cells #[.int .i64 0, .int .i64 0, .int .i64 0, .string ⟨#[]⟩, .int .i64 0] 25) = Wd at *
        rename World => Wc
        clear hK K
        try simp only [Act.put, List.setIfInBounds_toArray, List.set_cons_zero, List.set_cons_succ]
        rotate_left)
   all_goals first
     | (refine wpAnyH_ready (rs := [3,5,11]) (by decide +kernel) (by simp) ?_
        refine (AllReadyH.cons (o := { dst := some 38, op := .call { callee := .builtin .append, args := #[.tmp 36, .tmp 37], argTypes := #[28, 28] }, type := 28, pos := "law.go:84", after := #[{ on := 1, ground := .data }, { on := 2, ground := .data }], guard := none }) rfl (fun K hK => ?_) (AllReadyH.cons (o := { dst := some 40, op := .buildSlice 28 1 #[(0, .tmp 39)], type := 28, pos := "law.go:84", after := #[{ on := 4, ground := .data }], guard := none }) rfl (fun K hK => ?_) (AllReadyH.cons (o := { dst := some 9, op := .alloc 25, type := 0, pos := "law.go:84", after := #[], guard := none }) rfl (fun K hK => ?_) AllReadyH.nil)))
        have hx : Below w5.heap.size w5 Wc := hHeld
        have _h5 := hx.size
        have hown := own_made hE (base := w5.heap.size) (by omega)
        have hr := reads_rm clB_len (by decide) (HL.out.step (bstep hb05 hx))
        rw [hLN] at hr
        refine App.step_append_any _ rfl (.tmp 36) (.tmp 37) _ (by rfl) w5.heap.size 27 i0 _ 6 64 Tryz.underlying28 HI.out HZ0.out HZ1.out HZ2.out rfl (by omega) _ 0 _ (by rfl) hown _ A N c _ (by rfl) hr (rowB_one _) (by simp only [maxLen]; omega) (by omega) (by omega) ?_
        intro x1 Wd hown1 hg1 hat1
        rw [Nat.zero_add] at hown1
        have hx2 := below_own hx (Nat.le_refl _) hown hg1
        have hx1lt := fun k hk => (hown1.lt k hk).2
        have hbs := hg1.size
        refine hK.out _ _ hx2 (fun hHeld => ?_)
        (try replace hF := blk_grown hF hg1 (by simp only [Value.ownBlock, ne_eq, Option.some.injEq]; omega))
        (try replace hP := blk_grown hP hg1 (by simp only [Value.ownBlock, ne_eq, Option.some.injEq]; omega))
        clear hO hE
        have hO := hown1
        have hE : True := trivial
        clear hown hr hg1 hown1 hx hx2
        rename World => Wc
        clear hK K
        try simp only [Act.put, List.setIfInBounds_toArray, List.set_cons_zero, List.set_cons_succ]
        rotate_left
        go_simp
        have hx := hHeld
        have hbb : Below Wc.heap.size Wc (Wc.alloc (.cells #[.string nm, .int .i64 bk, .int .i64 bn, .int .i64 bs', .string bq, .int .i64 bm] 27)) := balloc (Below.refl _ _) _
        have _hsz : Wc.heap.size < (Wc.alloc (.cells #[.string nm, .int .i64 bk, .int .i64 bn, .int .i64 bs', .string bq, .int .i64 bm] 27)).heap.size := by simp
        have hnew : Blk (Wc.alloc (.cells #[.string nm, .int .i64 bk, .int .i64 bn, .int .i64 bs', .string bq, .int .i64 bm] 27)) Wc.heap.size 27 #[.string nm, .int .i64 bk, .int .i64 bn, .int .i64 bs', .string bq, .int .i64 bm] := Blk.new _ _ _
        have hx2 := bstep hx hbb
        have _h5 : w5.heap.size ≤ Wc.heap.size := hx.size
        refine hK.out _ _ hx2 (fun hHeld => ?_)
        (try replace hE := blk_step hE hbb)
        (try replace hO := own_step hO hbb)
        (try replace hF := blk_step hF hbb)
        (try replace hP := blk_step hP hbb)
        clear hF
        have hF := hnew
        clear hnew hx hx2
        generalize Wc.alloc (.cells #[.string nm, .int .i64 bk, .int .i64 bn, .int .i64 bs', .string bq, .int .i64 bm] 27) = Wd at *
        rename World => Wc
        clear hK K
        try simp only [Act.put, List.setIfInBounds_toArray, List.set_cons_zero, List.set_cons_succ]
        rotate_left
        go_simp
        have hx := hHeld
        have hbb : Below Wc.heap.size Wc (Wc.alloc (.cells #[.int .i64 0, .int .i64 0, .int .i64 0, .string ⟨#[]⟩, .int .i64 0] 25)) := balloc (Below.refl _ _) _
        have _hsz : Wc.heap.size < (Wc.alloc (.cells #[.int .i64 0, .int .i64 0, .int .i64 0, .string ⟨#[]⟩, .int .i64 0] 25)).heap.size := by simp
        have hnew : Blk (Wc.alloc (.cells #[.int .i64 0, .int .i64 0, .int .i64 0, .string ⟨#[]⟩, .int .i64 0] 25)) Wc.heap.size 25 #[.int .i64 0, .int .i64 0, .int .i64 0, .string ⟨#[]⟩, .int .i64 0] := Blk.new _ _ _
        have hx2 := bstep hx hbb
        have _h5 : w5.heap.size ≤ Wc.heap.size := hx.size
        refine hK.out _ _ hx2 (fun hHeld => ?_)
        (try replace hE := blk_step hE hbb)
        (try replace hO := own_step hO hbb)
        (try replace hF := blk_step hF hbb)
        (try replace hP := blk_step hP hbb)
        clear hP
        have hP := hnew
        clear hnew hx hx2
        generalize Wc.alloc (.cells #[.int .i64 0, .int .i64 0, .int .i64 0, .string ⟨#[]⟩, .int .i64 0] 25) = Wd at *
        rename World => Wc
        clear hK K
        try simp only [Act.put, List.setIfInBounds_toArray, List.set_cons_zero, List.set_cons_succ]
        rotate_left)
     | (refine wpAnyH_ready (rs := [1,11]) (by decide +kernel) (by simp) ?_
        refine (AllReadyH.cons (o := { dst := some 36, op := .buildSlice 28 0 #[], type := 28, pos := "law.go:84", after := #[], guard := none }) rfl (fun K hK => ?_) (AllReadyH.cons (o := { dst := some 9, op := .alloc 25, type := 0, pos := "law.go:84", after := #[], guard := none }) rfl (fun K hK => ?_) AllReadyH.nil))
        go_simp
        have hx := hHeld
        have hbb : Below Wc.heap.size Wc (Wc.alloc (.cells #[] 27)) := balloc (Below.refl _ _) _
        have _hsz : Wc.heap.size < (Wc.alloc (.cells #[] 27)).heap.size := by simp
        have hnew : Blk (Wc.alloc (.cells #[] 27)) Wc.heap.size 27 #[] := Blk.new _ _ _
        have hx2 := bstep hx hbb
        have _h5 : w5.heap.size ≤ Wc.heap.size := hx.size
        refine hK.out _ _ hx2 (fun hHeld => ?_)
        (try replace hE := blk_step hE hbb)
        (try replace hO := own_step hO hbb)
        (try replace hF := blk_step hF hbb)
        (try replace hP := blk_step hP hbb)
        clear hE
        have hE := hnew
        clear hnew hx hx2
        generalize Wc.alloc (.cells #[] 27) = Wd at *
        rename World => Wc
        clear hK K
        try simp only [Act.put, List.setIfInBounds_toArray, List.set_cons_zero, List.set_cons_succ]
        rotate_left
        go_simp
        have hx := hHeld
        have hbb : Below Wc.heap.size Wc (Wc.alloc (.cells #[.int .i64 0, .int .i64 0, .int .i64 0, .string ⟨#[]⟩, .int .i64 0] 25)) := balloc (Below.refl _ _) _
        have _hsz : Wc.heap.size < (Wc.alloc (.cells #[.int .i64 0, .int .i64 0, .int .i64 0, .string ⟨#[]⟩, .int .i64 0] 25)).heap.size := by simp
        have hnew : Blk (Wc.alloc (.cells #[.int .i64 0, .int .i64 0, .int .i64 0, .string ⟨#[]⟩, .int .i64 0] 25)) Wc.heap.size 25 #[.int .i64 0, .int .i64 0, .int .i64 0, .string ⟨#[]⟩, .int .i64 0] := Blk.new _ _ _
        have hx2 := bstep hx hbb
        have _h5 : w5.heap.size ≤ Wc.heap.size := hx.size
        refine hK.out _ _ hx2 (fun hHeld => ?_)
        (try replace hE := blk_step hE hbb)
        (try replace hO := own_step hO hbb)
        (try replace hF := blk_step hF hbb)
        (try replace hP := blk_step hP hbb)
        clear hP
        have hP := hnew
        clear hnew hx hx2
        generalize Wc.alloc (.cells #[.int .i64 0, .int .i64 0, .int .i64 0, .string ⟨#[]⟩, .int .i64 0] 25) = Wd at *
        rename World => Wc
        clear hK K
        try simp only [Act.put, List.setIfInBounds_toArray, List.set_cons_zero, List.set_cons_succ]
        rotate_left)
     | (refine wpAnyH_ready (rs := [1,5]) (by decide +kernel) (by simp) ?_
        refine (AllReadyH.cons (o := { dst := some 36, op := .buildSlice 28 0 #[], type := 28, pos := "law.go:84", after := #[], guard := none }) rfl (fun K hK => ?_) (AllReadyH.cons (o := { dst := some 40, op := .buildSlice 28 1 #[(0, .tmp 39)], type := 28, pos := "law.go:84", after := #[{ on := 4, ground := .data }], guard := none }) rfl (fun K hK => ?_) AllReadyH.nil))
        go_simp
        have hx := hHeld
        have hbb : Below Wc.heap.size Wc (Wc.alloc (.cells #[] 27)) := balloc (Below.refl _ _) _
        have _hsz : Wc.heap.size < (Wc.alloc (.cells #[] 27)).heap.size := by simp
        have hnew : Blk (Wc.alloc (.cells #[] 27)) Wc.heap.size 27 #[] := Blk.new _ _ _
        have hx2 := bstep hx hbb
        have _h5 : w5.heap.size ≤ Wc.heap.size := hx.size
        refine hK.out _ _ hx2 (fun hHeld => ?_)
        (try replace hE := blk_step hE hbb)
        (try replace hO := own_step hO hbb)
        (try replace hF := blk_step hF hbb)
        (try replace hP := blk_step hP hbb)
        clear hE
        have hE := hnew
        clear hnew hx hx2
        generalize Wc.alloc (.cells #[] 27) = Wd at *
        rename World => Wc
        clear hK K
        try simp only [Act.put, List.setIfInBounds_toArray, List.set_cons_zero, List.set_cons_succ]
        rotate_left
        go_simp
        have hx := hHeld
        have hbb : Below Wc.heap.size Wc (Wc.alloc (.cells #[.string nm, .int .i64 bk, .int .i64 bn, .int .i64 bs', .string bq, .int .i64 bm] 27)) := balloc (Below.refl _ _) _
        have _hsz : Wc.heap.size < (Wc.alloc (.cells #[.string nm, .int .i64 bk, .int .i64 bn, .int .i64 bs', .string bq, .int .i64 bm] 27)).heap.size := by simp
        have hnew : Blk (Wc.alloc (.cells #[.string nm, .int .i64 bk, .int .i64 bn, .int .i64 bs', .string bq, .int .i64 bm] 27)) Wc.heap.size 27 #[.string nm, .int .i64 bk, .int .i64 bn, .int .i64 bs', .string bq, .int .i64 bm] := Blk.new _ _ _
        have hx2 := bstep hx hbb
        have _h5 : w5.heap.size ≤ Wc.heap.size := hx.size
        refine hK.out _ _ hx2 (fun hHeld => ?_)
        (try replace hE := blk_step hE hbb)
        (try replace hO := own_step hO hbb)
        (try replace hF := blk_step hF hbb)
        (try replace hP := blk_step hP hbb)
        clear hF
        have hF := hnew
        clear hnew hx hx2
        generalize Wc.alloc (.cells #[.string nm, .int .i64 bk, .int .i64 bn, .int .i64 bs', .string bq, .int .i64 bm] 27) = Wd at *
        rename World => Wc
        clear hK K
        try simp only [Act.put, List.setIfInBounds_toArray, List.set_cons_zero, List.set_cons_succ]
        rotate_left)
   all_goals first
     | (refine wpAnyH_ready (rs := [5,11]) (by decide +kernel) (by simp) ?_
        refine (AllReadyH.cons (o := { dst := some 40, op := .buildSlice 28 1 #[(0, .tmp 39)], type := 28, pos := "law.go:84", after := #[{ on := 4, ground := .data }], guard := none }) rfl (fun K hK => ?_) (AllReadyH.cons (o := { dst := some 9, op := .alloc 25, type := 0, pos := "law.go:84", after := #[], guard := none }) rfl (fun K hK => ?_) AllReadyH.nil))
        go_simp
        have hx := hHeld
        have hbb : Below Wc.heap.size Wc (Wc.alloc (.cells #[.string nm, .int .i64 bk, .int .i64 bn, .int .i64 bs', .string bq, .int .i64 bm] 27)) := balloc (Below.refl _ _) _
        have _hsz : Wc.heap.size < (Wc.alloc (.cells #[.string nm, .int .i64 bk, .int .i64 bn, .int .i64 bs', .string bq, .int .i64 bm] 27)).heap.size := by simp
        have hnew : Blk (Wc.alloc (.cells #[.string nm, .int .i64 bk, .int .i64 bn, .int .i64 bs', .string bq, .int .i64 bm] 27)) Wc.heap.size 27 #[.string nm, .int .i64 bk, .int .i64 bn, .int .i64 bs', .string bq, .int .i64 bm] := Blk.new _ _ _
        have hx2 := bstep hx hbb
        have _h5 : w5.heap.size ≤ Wc.heap.size := hx.size
        refine hK.out _ _ hx2 (fun hHeld => ?_)
        (try replace hE := blk_step hE hbb)
        (try replace hO := own_step hO hbb)
        (try replace hF := blk_step hF hbb)
        (try replace hP := blk_step hP hbb)
        clear hF
        have hF := hnew
        clear hnew hx hx2
        generalize Wc.alloc (.cells #[.string nm, .int .i64 bk, .int .i64 bn, .int .i64 bs', .string bq, .int .i64 bm] 27) = Wd at *
        rename World => Wc
        clear hK K
        try simp only [Act.put, List.setIfInBounds_toArray, List.set_cons_zero, List.set_cons_succ]
        rotate_left
        go_simp
        have hx := hHeld
        have hbb : Below Wc.heap.size Wc (Wc.alloc (.cells #[.int .i64 0, .int .i64 0, .int .i64 0, .string ⟨#[]⟩, .int .i64 0] 25)) := balloc (Below.refl _ _) _
        have _hsz : Wc.heap.size < (Wc.alloc (.cells #[.int .i64 0, .int .i64 0, .int .i64 0, .string ⟨#[]⟩, .int .i64 0] 25)).heap.size := by simp
        have hnew : Blk (Wc.alloc (.cells #[.int .i64 0, .int .i64 0, .int .i64 0, .string ⟨#[]⟩, .int .i64 0] 25)) Wc.heap.size 25 #[.int .i64 0, .int .i64 0, .int .i64 0, .string ⟨#[]⟩, .int .i64 0] := Blk.new _ _ _
        have hx2 := bstep hx hbb
        have _h5 : w5.heap.size ≤ Wc.heap.size := hx.size
        refine hK.out _ _ hx2 (fun hHeld => ?_)
        (try replace hE := blk_step hE hbb)
        (try replace hO := own_step hO hbb)
        (try replace hF := blk_step hF hbb)
        (try replace hP := blk_step hP hbb)
        clear hP
        have hP := hnew
        clear hnew hx hx2
        generalize Wc.alloc (.cells #[.int .i64 0, .int .i64 0, .int .i64 0, .string ⟨#[]⟩, .int .i64 0] 25) = Wd at *
        rename World => Wc
        clear hK K
        try simp only [Act.put, List.setIfInBounds_toArray, List.set_cons_zero, List.set_cons_succ]
        rotate_left)
     | (refine wpAnyH_ready (rs := [3,11]) (by decide +kernel) (by simp) ?_
        refine (AllReadyH.cons (o := { dst := some 38, op := .call { callee := .builtin .append, args := #[.tmp 36, .tmp 37], argTypes := #[28, 28] }, type := 28, pos := "law.go:84", after := #[{ on := 1, ground := .data }, { on := 2, ground := .data }], guard := none }) rfl (fun K hK => ?_) (AllReadyH.cons (o := { dst := some 9, op := .alloc 25, type := 0, pos := "law.go:84", after := #[], guard := none }) rfl (fun K hK => ?_) AllReadyH.nil))
        have hx : Below w5.heap.size w5 Wc := hHeld
        have _h5 := hx.size
        have hown := own_made hE (base := w5.heap.size) (by omega)
        have hr := reads_rm clB_len (by decide) (HL.out.step (bstep hb05 hx))
        rw [hLN] at hr
        refine App.step_append_any _ rfl (.tmp 36) (.tmp 37) _ (by rfl) w5.heap.size 27 i0 _ 6 64 Tryz.underlying28 HI.out HZ0.out HZ1.out HZ2.out rfl (by omega) _ 0 _ (by rfl) hown _ A N c _ (by rfl) hr (rowB_one _) (by simp only [maxLen]; omega) (by omega) (by omega) ?_
        intro x1 Wd hown1 hg1 hat1
        rw [Nat.zero_add] at hown1
        have hx2 := below_own hx (Nat.le_refl _) hown hg1
        have hx1lt := fun k hk => (hown1.lt k hk).2
        have hbs := hg1.size
        refine hK.out _ _ hx2 (fun hHeld => ?_)
        (try replace hF := blk_grown hF hg1 (by simp only [Value.ownBlock, ne_eq, Option.some.injEq]; omega))
        (try replace hP := blk_grown hP hg1 (by simp only [Value.ownBlock, ne_eq, Option.some.injEq]; omega))
        clear hO hE
        have hO := hown1
        have hE : True := trivial
        clear hown hr hg1 hown1 hx hx2
        rename World => Wc
        clear hK K
        try simp only [Act.put, List.setIfInBounds_toArray, List.set_cons_zero, List.set_cons_succ]
        rotate_left
        go_simp
        have hx := hHeld
        have hbb : Below Wc.heap.size Wc (Wc.alloc (.cells #[.int .i64 0, .int .i64 0, .int .i64 0, .string ⟨#[]⟩, .int .i64 0] 25)) := balloc (Below.refl _ _) _
        have _hsz : Wc.heap.size < (Wc.alloc (.cells #[.int .i64 0, .int .i64 0, .int .i64 0, .string ⟨#[]⟩, .int .i64 0] 25)).heap.size := by simp
        have hnew : Blk (Wc.alloc (.cells #[.int .i64 0, .int .i64 0, .int .i64 0, .string ⟨#[]⟩, .int .i64 0] 25)) Wc.heap.size 25 #[.int .i64 0, .int .i64 0, .int .i64 0, .string ⟨#[]⟩, .int .i64 0] := Blk.new _ _ _
        have hx2 := bstep hx hbb
        have _h5 : w5.heap.size ≤ Wc.heap.size := hx.size
        refine hK.out _ _ hx2 (fun hHeld => ?_)
        (try replace hE := blk_step hE hbb)
        (try replace hO := own_step hO hbb)
        (try replace hF := blk_step hF hbb)
        (try replace hP := blk_step hP hbb)
        clear hP
        have hP := hnew
        clear hnew hx hx2
        generalize Wc.alloc (.cells #[.int .i64 0, .int .i64 0, .int .i64 0, .string ⟨#[]⟩, .int .i64 0] 25) = Wd at *
        rename World => Wc
        clear hK K
        try simp only [Act.put, List.setIfInBounds_toArray, List.set_cons_zero, List.set_cons_succ]
        rotate_left)
     | (refine wpAnyH_ready (rs := [3,5]) (by decide +kernel) (by simp) ?_
        refine (AllReadyH.cons (o := { dst := some 38, op := .call { callee := .builtin .append, args := #[.tmp 36, .tmp 37], argTypes := #[28, 28] }, type := 28, pos := "law.go:84", after := #[{ on := 1, ground := .data }, { on := 2, ground := .data }], guard := none }) rfl (fun K hK => ?_) (AllReadyH.cons (o := { dst := some 40, op := .buildSlice 28 1 #[(0, .tmp 39)], type := 28, pos := "law.go:84", after := #[{ on := 4, ground := .data }], guard := none }) rfl (fun K hK => ?_) AllReadyH.nil))
        have hx : Below w5.heap.size w5 Wc := hHeld
        have _h5 := hx.size
        have hown := own_made hE (base := w5.heap.size) (by omega)
        have hr := reads_rm clB_len (by decide) (HL.out.step (bstep hb05 hx))
        rw [hLN] at hr
        refine App.step_append_any _ rfl (.tmp 36) (.tmp 37) _ (by rfl) w5.heap.size 27 i0 _ 6 64 Tryz.underlying28 HI.out HZ0.out HZ1.out HZ2.out rfl (by omega) _ 0 _ (by rfl) hown _ A N c _ (by rfl) hr (rowB_one _) (by simp only [maxLen]; omega) (by omega) (by omega) ?_
        intro x1 Wd hown1 hg1 hat1
        rw [Nat.zero_add] at hown1
        have hx2 := below_own hx (Nat.le_refl _) hown hg1
        have hx1lt := fun k hk => (hown1.lt k hk).2
        have hbs := hg1.size
        refine hK.out _ _ hx2 (fun hHeld => ?_)
        (try replace hF := blk_grown hF hg1 (by simp only [Value.ownBlock, ne_eq, Option.some.injEq]; omega))
        (try replace hP := blk_grown hP hg1 (by simp only [Value.ownBlock, ne_eq, Option.some.injEq]; omega))
        clear hO hE
        have hO := hown1
        have hE : True := trivial
        clear hown hr hg1 hown1 hx hx2
        rename World => Wc
        clear hK K
        try simp only [Act.put, List.setIfInBounds_toArray, List.set_cons_zero, List.set_cons_succ]
        rotate_left
        go_simp
        have hx := hHeld
        have hbb : Below Wc.heap.size Wc (Wc.alloc (.cells #[.string nm, .int .i64 bk, .int .i64 bn, .int .i64 bs', .string bq, .int .i64 bm] 27)) := balloc (Below.refl _ _) _
        have _hsz : Wc.heap.size < (Wc.alloc (.cells #[.string nm, .int .i64 bk, .int .i64 bn, .int .i64 bs', .string bq, .int .i64 bm] 27)).heap.size := by simp
        have hnew : Blk (Wc.alloc (.cells #[.string nm, .int .i64 bk, .int .i64 bn, .int .i64 bs', .string bq, .int .i64 bm] 27)) Wc.heap.size 27 #[.string nm, .int .i64 bk, .int .i64 bn, .int .i64 bs', .string bq, .int .i64 bm] := Blk.new _ _ _
        have hx2 := bstep hx hbb
        have _h5 : w5.heap.size ≤ Wc.heap.size := hx.size
        refine hK.out _ _ hx2 (fun hHeld => ?_)
        (try replace hE := blk_step hE hbb)
        (try replace hO := own_step hO hbb)
        (try replace hF := blk_step hF hbb)
        (try replace hP := blk_step hP hbb)
        clear hF
        have hF := hnew
        clear hnew hx hx2
        generalize Wc.alloc (.cells #[.string nm, .int .i64 bk, .int .i64 bn, .int .i64 bs', .string bq, .int .i64 bm] 27) = Wd at *
        rename World => Wc
        clear hK K
        try simp only [Act.put, List.setIfInBounds_toArray, List.set_cons_zero, List.set_cons_succ]
        rotate_left)
     | (refine wpAnyH_ready (rs := [1]) (by decide +kernel) (by simp) ?_
        refine (AllReadyH.cons (o := { dst := some 36, op := .buildSlice 28 0 #[], type := 28, pos := "law.go:84", after := #[], guard := none }) rfl (fun K hK => ?_) AllReadyH.nil)
        go_simp
        have hx := hHeld
        have hbb : Below Wc.heap.size Wc (Wc.alloc (.cells #[] 27)) := balloc (Below.refl _ _) _
        have _hsz : Wc.heap.size < (Wc.alloc (.cells #[] 27)).heap.size := by simp
        have hnew : Blk (Wc.alloc (.cells #[] 27)) Wc.heap.size 27 #[] := Blk.new _ _ _
        have hx2 := bstep hx hbb
        have _h5 : w5.heap.size ≤ Wc.heap.size := hx.size
        refine hK.out _ _ hx2 (fun hHeld => ?_)
        (try replace hE := blk_step hE hbb)
        (try replace hO := own_step hO hbb)
        (try replace hF := blk_step hF hbb)
        (try replace hP := blk_step hP hbb)
        clear hE
        have hE := hnew
        clear hnew hx hx2
        generalize Wc.alloc (.cells #[] 27) = Wd at *
        rename World => Wc
        clear hK K
        try simp only [Act.put, List.setIfInBounds_toArray, List.set_cons_zero, List.set_cons_succ]
        rotate_left)
     | (refine wpAnyH_ready (rs := [1,5]) (by decide +kernel) (by simp) ?_
        refine (AllReadyH.cons (o := { dst := some 36, op := .buildSlice 28 0 #[], type := 28, pos := "law.go:84", after := #[], guard := none }) rfl (fun K hK => ?_) (AllReadyH.cons (o := { dst := some 40, op := .buildSlice 28 1 #[(0, .tmp 39)], type := 28, pos := "law.go:84", after := #[{ on := 4, ground := .data }], guard := none }) rfl (fun K hK => ?_) AllReadyH.nil))
        go_simp
        have hx := hHeld
        have hbb : Below Wc.heap.size Wc (Wc.alloc (.cells #[] 27)) := balloc (Below.refl _ _) _
        have _hsz : Wc.heap.size < (Wc.alloc (.cells #[] 27)).heap.size := by simp
        have hnew : Blk (Wc.alloc (.cells #[] 27)) Wc.heap.size 27 #[] := Blk.new _ _ _
        have hx2 := bstep hx hbb
        have _h5 : w5.heap.size ≤ Wc.heap.size := hx.size
        refine hK.out _ _ hx2 (fun hHeld => ?_)
        (try replace hE := blk_step hE hbb)
        (try replace hO := own_step hO hbb)
        (try replace hF := blk_step hF hbb)
        (try replace hP := blk_step hP hbb)
        clear hE
        have hE := hnew
        clear hnew hx hx2
        generalize Wc.alloc (.cells #[] 27) = Wd at *
        rename World => Wc
        clear hK K
        try simp only [Act.put, List.setIfInBounds_toArray, List.set_cons_zero, List.set_cons_succ]
        rotate_left
        go_simp
        have hx := hHeld
        have hbb : Below Wc.heap.size Wc (Wc.alloc (.cells #[.string nm, .int .i64 bk, .int .i64 bn, .int .i64 bs', .string bq, .int .i64 bm] 27)) := balloc (Below.refl _ _) _
        have _hsz : Wc.heap.size < (Wc.alloc (.cells #[.string nm, .int .i64 bk, .int .i64 bn, .int .i64 bs', .string bq, .int .i64 bm] 27)).heap.size := by simp
        have hnew : Blk (Wc.alloc (.cells #[.string nm, .int .i64 bk, .int .i64 bn, .int .i64 bs', .string bq, .int .i64 bm] 27)) Wc.heap.size 27 #[.string nm, .int .i64 bk, .int .i64 bn, .int .i64 bs', .string bq, .int .i64 bm] := Blk.new _ _ _
        have hx2 := bstep hx hbb
        have _h5 : w5.heap.size ≤ Wc.heap.size := hx.size
        refine hK.out _ _ hx2 (fun hHeld => ?_)
        (try replace hE := blk_step hE hbb)
        (try replace hO := own_step hO hbb)
        (try replace hF := blk_step hF hbb)
        (try replace hP := blk_step hP hbb)
        clear hF
        have hF := hnew
        clear hnew hx hx2
        generalize Wc.alloc (.cells #[.string nm, .int .i64 bk, .int .i64 bn, .int .i64 bs', .string bq, .int .i64 bm] 27) = Wd at *
        rename World => Wc
        clear hK K
        try simp only [Act.put, List.setIfInBounds_toArray, List.set_cons_zero, List.set_cons_succ]
        rotate_left)
   all_goals first
     | (refine wpAnyH_ready (rs := [6,11]) (by decide +kernel) (by simp) ?_
        refine (AllReadyH.cons (o := { dst := some 41, op := .call { callee := .builtin .append, args := #[.tmp 38, .tmp 40], argTypes := #[28, 28] }, type := 28, pos := "law.go:84", after := #[{ on := 3, ground := .data }, { on := 5, ground := .data }, { on := 3, ground := .chain }], guard := none }) rfl (fun K hK => ?_) (AllReadyH.cons (o := { dst := some 9, op := .alloc 25, type := 0, pos := "law.go:84", after := #[], guard := none }) rfl (fun K hK => ?_) AllReadyH.nil))
        have hx : Below w5.heap.size w5 Wc := hHeld
        have _h5 := hx.size
        have hr := reads_rm clB_len (by decide) (rm_bnd (hBD.out ▸ hF))
        refine App.step_append_any _ rfl (.tmp 38) (.tmp 40) _ (by rfl) w5.heap.size 27 i0 _ 6 64 Tryz.underlying28 HI.out HZ0.out HZ1.out HZ2.out rfl (by omega) _ N _ (by rfl) hO _ _ 1 1 _ (by rfl) hr (rowB_one _) (by simp only [maxLen]; omega) (by omega) (by omega) ?_
        intro x2 Wd hown1 hg1 hat2
        have hx2 := below_own hx (Nat.le_refl _) hO hg1
        refine hK.out _ _ hx2 (fun hHeld => ?_)
        (try replace hP := blk_grown hP hg1 (by intro e; have h1 := hx1lt _ e; rcases hat1 with h | h <;> (have e2 := h.symm.trans e; (try simp only [Value.ownBlock] at e2); injection e2 with e2; omega)))
        clear hO hF
        have hO := hown1
        have hF : True := trivial
        clear hr hg1 hown1 hx hx2 hat2
        rename World => Wc
        clear hK K
        try simp only [Act.put, List.setIfInBounds_toArray, List.set_cons_zero, List.set_cons_succ]
        rotate_left
        go_simp
        have hx := hHeld
        have hbb : Below Wc.heap.size Wc (Wc.alloc (.cells #[.int .i64 0, .int .i64 0, .int .i64 0, .string ⟨#[]⟩, .int .i64 0] 25)) := balloc (Below.refl _ _) _
        have _hsz : Wc.heap.size < (Wc.alloc (.cells #[.int .i64 0, .int .i64 0, .int .i64 0, .string ⟨#[]⟩, .int .i64 0] 25)).heap.size := by simp
        have hnew : Blk (Wc.alloc (.cells #[.int .i64 0, .int .i64 0, .int .i64 0, .string ⟨#[]⟩, .int .i64 0] 25)) Wc.heap.size 25 #[.int .i64 0, .int .i64 0, .int .i64 0, .string ⟨#[]⟩, .int .i64 0] := Blk.new _ _ _
        have hx2 := bstep hx hbb
        have _h5 : w5.heap.size ≤ Wc.heap.size := hx.size
        refine hK.out _ _ hx2 (fun hHeld => ?_)
        (try replace hE := blk_step hE hbb)
        (try replace hO := own_step hO hbb)
        (try replace hF := blk_step hF hbb)
        (try replace hP := blk_step hP hbb)
        clear hP
        have hP := hnew
        clear hnew hx hx2
        generalize Wc.alloc (.cells #[.int .i64 0, .int .i64 0, .int .i64 0, .string ⟨#[]⟩, .int .i64 0] 25) = Wd at *
        rename World => Wc
        clear hK K
        try simp only [Act.put, List.setIfInBounds_toArray, List.set_cons_zero, List.set_cons_succ]
        rotate_left)
     | (refine wpAnyH_ready (rs := [6]) (by decide +kernel) (by simp) ?_
        refine (AllReadyH.cons (o := { dst := some 41, op := .call { callee := .builtin .append, args := #[.tmp 38, .tmp 40], argTypes := #[28, 28] }, type := 28, pos := "law.go:84", after := #[{ on := 3, ground := .data }, { on := 5, ground := .data }, { on := 3, ground := .chain }], guard := none }) rfl (fun K hK => ?_) AllReadyH.nil)
        have hx : Below w5.heap.size w5 Wc := hHeld
        have _h5 := hx.size
        have hr := reads_rm clB_len (by decide) (rm_bnd (hBD.out ▸ hF))
        refine App.step_append_any _ rfl (.tmp 38) (.tmp 40) _ (by rfl) w5.heap.size 27 i0 _ 6 64 Tryz.underlying28 HI.out HZ0.out HZ1.out HZ2.out rfl (by omega) _ N _ (by rfl) hO _ _ 1 1 _ (by rfl) hr (rowB_one _) (by simp only [maxLen]; omega) (by omega) (by omega) ?_
        intro x2 Wd hown1 hg1 hat2
        have hx2 := below_own hx (Nat.le_refl _) hO hg1
        refine hK.out _ _ hx2 (fun hHeld => ?_)
        (try replace hP := blk_grown hP hg1 (by intro e; have h1 := hx1lt _ e; rcases hat1 with h | h <;> (have e2 := h.symm.trans e; (try simp only [Value.ownBlock] at e2); injection e2 with e2; omega)))
        clear hO hF
        have hO := hown1
        have hF : True := trivial
        clear hr hg1 hown1 hx hx2 hat2
        rename World => Wc
        clear hK K
        try simp only [Act.put, List.setIfInBounds_toArray, List.set_cons_zero, List.set_cons_succ]
        rotate_left)
     | (refine wpAnyH_ready (rs := [5]) (by decide +kernel) (by simp) ?_
        refine (AllReadyH.cons (o := { dst := some 40, op := .buildSlice 28 1 #[(0, .tmp 39)], type := 28, pos := "law.go:84", after := #[{ on := 4, ground := .data }], guard := none }) rfl (fun K hK => ?_) AllReadyH.nil)
        go_simp
        have hx := hHeld
        have hbb : Below Wc.heap.size Wc (Wc.alloc (.cells #[.string nm, .int .i64 bk, .int .i64 bn, .int .i64 bs', .string bq, .int .i64 bm] 27)) := balloc (Below.refl _ _) _
        have _hsz : Wc.heap.size < (Wc.alloc (.cells #[.string nm, .int .i64 bk, .int .i64 bn, .int .i64 bs', .string bq, .int .i64 bm] 27)).heap.size := by simp
        have hnew : Blk (Wc.alloc (.cells #[.string nm, .int .i64 bk, .int .i64 bn, .int .i64 bs', .string bq, .int .i64 bm] 27)) Wc.heap.size 27 #[.string nm, .int .i64 bk, .int .i64 bn, .int .i64 bs', .string bq, .int .i64 bm] := Blk.new _ _ _
        have hx2 := bstep hx hbb
        have _h5 : w5.heap.size ≤ Wc.heap.size := hx.size
        refine hK.out _ _ hx2 (fun hHeld => ?_)
        (try replace hE := blk_step hE hbb)
        (try replace hO := own_step hO hbb)
        (try replace hF := blk_step hF hbb)
        (try replace hP := blk_step hP hbb)
        clear hF
        have hF := hnew
        clear hnew hx hx2
        generalize Wc.alloc (.cells #[.string nm, .int .i64 bk, .int .i64 bn, .int .i64 bs', .string bq, .int .i64 bm] 27) = Wd at *
        rename World => Wc
        clear hK K
        try simp only [Act.put, List.setIfInBounds_toArray, List.set_cons_zero, List.set_cons_succ]
        rotate_left)
     | (refine wpAnyH_ready (rs := [3,5]) (by decide +kernel) (by simp) ?_
        refine (AllReadyH.cons (o := { dst := some 38, op := .call { callee := .builtin .append, args := #[.tmp 36, .tmp 37], argTypes := #[28, 28] }, type := 28, pos := "law.go:84", after := #[{ on := 1, ground := .data }, { on := 2, ground := .data }], guard := none }) rfl (fun K hK => ?_) (AllReadyH.cons (o := { dst := some 40, op := .buildSlice 28 1 #[(0, .tmp 39)], type := 28, pos := "law.go:84", after := #[{ on := 4, ground := .data }], guard := none }) rfl (fun K hK => ?_) AllReadyH.nil))
        have hx : Below w5.heap.size w5 Wc := hHeld
        have _h5 := hx.size
        have hown := own_made hE (base := w5.heap.size) (by omega)
        have hr := reads_rm clB_len (by decide) (HL.out.step (bstep hb05 hx))
        rw [hLN] at hr
        refine App.step_append_any _ rfl (.tmp 36) (.tmp 37) _ (by rfl) w5.heap.size 27 i0 _ 6 64 Tryz.underlying28 HI.out HZ0.out HZ1.out HZ2.out rfl (by omega) _ 0 _ (by rfl) hown _ A N c _ (by rfl) hr (rowB_one _) (by simp only [maxLen]; omega) (by omega) (by omega) ?_
        intro x1 Wd hown1 hg1 hat1
        rw [Nat.zero_add] at hown1
        have hx2 := below_own hx (Nat.le_refl _) hown hg1
        have hx1lt := fun k hk => (hown1.lt k hk).2
        have hbs := hg1.size
        refine hK.out _ _ hx2 (fun hHeld => ?_)
        (try replace hF := blk_grown hF hg1 (by simp only [Value.ownBlock, ne_eq, Option.some.injEq]; omega))
        (try replace hP := blk_grown hP hg1 (by simp only [Value.ownBlock, ne_eq, Option.some.injEq]; omega))
        clear hO hE
        have hO := hown1
        have hE : True := trivial
        clear hown hr hg1 hown1 hx hx2
        rename World => Wc
        clear hK K
        try simp only [Act.put, List.setIfInBounds_toArray, List.set_cons_zero, List.set_cons_succ]
        rotate_left
        go_simp
        have hx := hHeld
        have hbb : Below Wc.heap.size Wc (Wc.alloc (.cells #[.string nm, .int .i64 bk, .int .i64 bn, .int .i64 bs', .string bq, .int .i64 bm] 27)) := balloc (Below.refl _ _) _
        have _hsz : Wc.heap.size < (Wc.alloc (.cells #[.string nm, .int .i64 bk, .int .i64 bn, .int .i64 bs', .string bq, .int .i64 bm] 27)).heap.size := by simp
        have hnew : Blk (Wc.alloc (.cells #[.string nm, .int .i64 bk, .int .i64 bn, .int .i64 bs', .string bq, .int .i64 bm] 27)) Wc.heap.size 27 #[.string nm, .int .i64 bk, .int .i64 bn, .int .i64 bs', .string bq, .int .i64 bm] := Blk.new _ _ _
        have hx2 := bstep hx hbb
        have _h5 : w5.heap.size ≤ Wc.heap.size := hx.size
        refine hK.out _ _ hx2 (fun hHeld => ?_)
        (try replace hE := blk_step hE hbb)
        (try replace hO := own_step hO hbb)
        (try replace hF := blk_step hF hbb)
        (try replace hP := blk_step hP hbb)
        clear hF
        have hF := hnew
        clear hnew hx hx2
        generalize Wc.alloc (.cells #[.string nm, .int .i64 bk, .int .i64 bn, .int .i64 bs', .string bq, .int .i64 bm] 27) = Wd at *
        rename World => Wc
        clear hK K
        try simp only [Act.put, List.setIfInBounds_toArray, List.set_cons_zero, List.set_cons_succ]
        rotate_left)
     | (refine wpAnyH_ready (rs := [3]) (by decide +kernel) (by simp) ?_
        refine (AllReadyH.cons (o := { dst := some 38, op := .call { callee := .builtin .append, args := #[.tmp 36, .tmp 37], argTypes := #[28, 28] }, type := 28, pos := "law.go:84", after := #[{ on := 1, ground := .data }, { on := 2, ground := .data }], guard := none }) rfl (fun K hK => ?_) AllReadyH.nil)
        have hx : Below w5.heap.size w5 Wc := hHeld
        have _h5 := hx.size
        have hown := own_made hE (base := w5.heap.size) (by omega)
        have hr := reads_rm clB_len (by decide) (HL.out.step (bstep hb05 hx))
        rw [hLN] at hr
        refine App.step_append_any _ rfl (.tmp 36) (.tmp 37) _ (by rfl) w5.heap.size 27 i0 _ 6 64 Tryz.underlying28 HI.out HZ0.out HZ1.out HZ2.out rfl (by omega) _ 0 _ (by rfl) hown _ A N c _ (by rfl) hr (rowB_one _) (by simp only [maxLen]; omega) (by omega) (by omega) ?_
        intro x1 Wd hown1 hg1 hat1
        rw [Nat.zero_add] at hown1
        have hx2 := below_own hx (Nat.le_refl _) hown hg1
        have hx1lt := fun k hk => (hown1.lt k hk).2
        have hbs := hg1.size
        refine hK.out _ _ hx2 (fun hHeld => ?_)
        (try replace hF := blk_grown hF hg1 (by simp only [Value.ownBlock, ne_eq, Option.some.injEq]; omega))
        (try replace hP := blk_grown hP hg1 (by simp only [Value.ownBlock, ne_eq, Option.some.injEq]; omega))
        clear hO hE
        have hO := hown1
        have hE : True := trivial
        clear hown hr hg1 hown1 hx hx2
        rename World => Wc
        clear hK K
        try simp only [Act.put, List.setIfInBounds_toArray, List.set_cons_zero, List.set_cons_succ]
        rotate_left)
     | (refine wpAnyH_ready (rs := [3,11]) (by decide +kernel) (by simp) ?_
        refine (AllReadyH.cons (o := { dst := some 38, op := .call { callee := .builtin .append, args := #[.tmp 36, .tmp 37], argTypes := #[28, 28] }, type := 28, pos := "law.go:84", after := #[{ on := 1, ground := .data }, { on := 2, ground := .data }], guard := none }) rfl (fun K hK => ?_) (AllReadyH.cons (o := { dst := some 9, op := .alloc 25, type := 0, pos := "law.go:84", after := #[], guard := none }) rfl (fun K hK => ?_) AllReadyH.nil))
        have hx : Below w5.heap.size w5 Wc := hHeld
        have _h5 := hx.size
        have hown := own_made hE (base := w5.heap.size) (by omega)
        have hr := reads_rm clB_len (by decide) (HL.out.step (bstep hb05 hx))
        rw [hLN] at hr
        refine App.step_append_any _ rfl (.tmp 36) (.tmp 37) _ (by rfl) w5.heap.size 27 i0 _ 6 64 Tryz.underlying28 HI.out HZ0.out HZ1.out HZ2.out rfl (by omega) _ 0 _ (by rfl) hown _ A N c _ (by rfl) hr (rowB_one _) (by simp only [maxLen]; omega) (by omega) (by omega) ?_
        intro x1 Wd hown1 hg1 hat1
        rw [Nat.zero_add] at hown1
        have hx2 := below_own hx (Nat.le_refl _) hown hg1
        have hx1lt := fun k hk => (hown1.lt k hk).2
        have hbs := hg1.size
        refine hK.out _ _ hx2 (fun hHeld => ?_)
        (try replace hF := blk_grown hF hg1 (by simp only [Value.ownBlock, ne_eq, Option.some.injEq]; omega))
        (try replace hP := blk_grown hP hg1 (by simp only [Value.ownBlock, ne_eq, Option.some.injEq]; omega))
        clear hO hE
        have hO := hown1
        have hE : True := trivial
        clear hown hr hg1 hown1 hx hx2
        rename World => Wc
        clear hK K
        try simp only [Act.put, List.setIfInBounds_toArray, List.set_cons_zero, List.set_cons_succ]
        rotate_left
        go_simp
        have hx := hHeld
        have hbb : Below Wc.heap.size Wc (Wc.alloc (.cells #[.int .i64 0, .int .i64 0, .int .i64 0, .string ⟨#[]⟩, .int .i64 0] 25)) := balloc (Below.refl _ _) _
        have _hsz : Wc.heap.size < (Wc.alloc (.cells #[.int .i64 0, .int .i64 0, .int .i64 0, .string ⟨#[]⟩, .int .i64 0] 25)).heap.size := by simp
        have hnew : Blk (Wc.alloc (.cells #[.int .i64 0, .int .i64 0, .int .i64 0, .string ⟨#[]⟩, .int .i64 0] 25)) Wc.heap.size 25 #[.int .i64 0, .int .i64 0, .int .i64 0, .string ⟨#[]⟩, .int .i64 0] := Blk.new _ _ _
        have hx2 := bstep hx hbb
        have _h5 : w5.heap.size ≤ Wc.heap.size := hx.size
        refine hK.out _ _ hx2 (fun hHeld => ?_)
        (try replace hE := blk_step hE hbb)
        (try replace hO := own_step hO hbb)
        (try replace hF := blk_step hF hbb)
        (try replace hP := blk_step hP hbb)
        clear hP
        have hP := hnew
        clear hnew hx hx2
        generalize Wc.alloc (.cells #[.int .i64 0, .int .i64 0, .int .i64 0, .string ⟨#[]⟩, .int .i64 0] 25) = Wd at *
        rename World => Wc
        clear hK K
        try simp only [Act.put, List.setIfInBounds_toArray, List.set_cons_zero, List.set_cons_succ]
        rotate_left)
   all_goals first
     | (refine wpAnyH_ready (rs := [7,11]) (by decide +kernel) (by simp) ?_
        refine (AllReadyH.cons (o := { dst := some 42, op := .call { callee := .value (.func 10), args := #[.tmp 35, .tmp 41], argTypes := #[33, 28] }, type := 37, pos := "law.go:84", after := #[{ on := 0, ground := .data }, { on := 6, ground := .data }, { on := 6, ground := .chain }], guard := none }) rfl (fun K hK => ?_) (AllReadyH.cons (o := { dst := some 9, op := .alloc 25, type := 0, pos := "law.go:84", after := #[], guard := none }) rfl (fun K hK => ?_) AllReadyH.nil))
        have hx : Below w5.heap.size w5 Wc := hHeld
        obtain ⟨A2, c2, e2, hrm2, _, _, _⟩ := own_rm clB_len (L := L ++ [b]) (by rw [rowL_app]; exact hO) (by rw [List.length_append, hLN]; simp)
        subst e2
        go_simp
        refine (KV2.out _ A2 c2 (bstep hb05 hx) hrm2).mono ?_
        rintro e Wd ⟨rfl, hbb⟩
        have hx2 := bstep hx hbb
        dsimp only
        refine hK.out _ _ hx2 (fun hHeld => ?_)
        (try replace hP := blk_step hP hbb)
        clear hO hrm2 hx hx2 hbb
        rename World => Wc
        clear hK K
        try simp only [Act.put, List.setIfInBounds_toArray, List.set_cons_zero, List.set_cons_succ]
        rotate_left
        go_simp
        have hx := hHeld
        have hbb : Below Wc.heap.size Wc (Wc.alloc (.cells #[.int .i64 0, .int .i64 0, .int .i64 0, .string ⟨#[]⟩, .int .i64 0] 25)) := balloc (Below.refl _ _) _
        have _hsz : Wc.heap.size < (Wc.alloc (.cells #[.int .i64 0, .int .i64 0, .int .i64 0, .string ⟨#[]⟩, .int .i64 0] 25)).heap.size := by simp
        have hnew : Blk (Wc.alloc (.cells #[.int .i64 0, .int .i64 0, .int .i64 0, .string ⟨#[]⟩, .int .i64 0] 25)) Wc.heap.size 25 #[.int .i64 0, .int .i64 0, .int .i64 0, .string ⟨#[]⟩, .int .i64 0] := Blk.new _ _ _
        have hx2 := bstep hx hbb
        have _h5 : w5.heap.size ≤ Wc.heap.size := hx.size
        refine hK.out _ _ hx2 (fun hHeld => ?_)
        (try replace hE := blk_step hE hbb)
        (try replace hO := own_step hO hbb)
        (try replace hF := blk_step hF hbb)
        (try replace hP := blk_step hP hbb)
        clear hP
        have hP := hnew
        clear hnew hx hx2
        generalize Wc.alloc (.cells #[.int .i64 0, .int .i64 0, .int .i64 0, .string ⟨#[]⟩, .int .i64 0] 25) = Wd at *
        rename World => Wc
        clear hK K
        try simp only [Act.put, List.setIfInBounds_toArray, List.set_cons_zero, List.set_cons_succ]
        rotate_left)
     | (refine wpAnyH_ready (rs := [7]) (by decide +kernel) (by simp) ?_
        refine (AllReadyH.cons (o := { dst := some 42, op := .call { callee := .value (.func 10), args := #[.tmp 35, .tmp 41], argTypes := #[33, 28] }, type := 37, pos := "law.go:84", after := #[{ on := 0, ground := .data }, { on := 6, ground := .data }, { on := 6, ground := .chain }], guard := none }) rfl (fun K hK => ?_) AllReadyH.nil)
        have hx : Below w5.heap.size w5 Wc := hHeld
        obtain ⟨A2, c2, e2, hrm2, _, _, _⟩ := own_rm clB_len (L := L ++ [b]) (by rw [rowL_app]; exact hO) (by rw [List.length_append, hLN]; simp)
        subst e2
        go_simp
        refine (KV2.out _ A2 c2 (bstep hb05 hx) hrm2).mono ?_
        rintro e Wd ⟨rfl, hbb⟩
        have hx2 := bstep hx hbb
        dsimp only
        refine hK.out _ _ hx2 (fun hHeld => ?_)
        (try replace hP := blk_step hP hbb)
        clear hO hrm2 hx hx2 hbb
        rename World => Wc
        clear hK K
        try simp only [Act.put, List.setIfInBounds_toArray, List.set_cons_zero, List.set_cons_succ]
        rotate_left)
     | (refine wpAnyH_ready (rs := [6]) (by decide +kernel) (by simp) ?_
        refine (AllReadyH.cons (o := { dst := some 41, op := .call { callee := .builtin .append, args := #[.tmp 38, .tmp 40], argTypes := #[28, 28] }, type := 28, pos := "law.go:84", after := #[{ on := 3, ground := .data }, { on := 5, ground := .data }, { on := 3, ground := .chain }], guard := none }) rfl (fun K hK => ?_) AllReadyH.nil)
        have hx : Below w5.heap.size w5 Wc := hHeld
        have _h5 := hx.size
        have hr := reads_rm clB_len (by decide) (rm_bnd (hBD.out ▸ hF))
        refine App.step_append_any _ rfl (.tmp 38) (.tmp 40) _ (by rfl) w5.heap.size 27 i0 _ 6 64 Tryz.underlying28 HI.out HZ0.out HZ1.out HZ2.out rfl (by omega) _ N _ (by rfl) hO _ _ 1 1 _ (by rfl) hr (rowB_one _) (by simp only [maxLen]; omega) (by omega) (by omega) ?_
        intro x2 Wd hown1 hg1 hat2
        have hx2 := below_own hx (Nat.le_refl _) hO hg1
        refine hK.out _ _ hx2 (fun hHeld => ?_)
        (try replace hP := blk_grown hP hg1 (by intro e; have h1 := hx1lt _ e; rcases hat1 with h | h <;> (have e2 := h.symm.trans e; (try simp only [Value.ownBlock] at e2); injection e2 with e2; omega)))
        clear hO hF
        have hO := hown1
        have hF : True := trivial
        clear hr hg1 hown1 hx hx2 hat2
        rename World => Wc
        clear hK K
        try simp only [Act.put, List.setIfInBounds_toArray, List.set_cons_zero, List.set_cons_succ]
        rotate_left)
     | (refine wpAnyH_ready (rs := [6,11]) (by decide +kernel) (by simp) ?_
        refine (AllReadyH.cons (o := { dst := some 41, op := .call { callee := .builtin .append, args := #[.tmp 38, .tmp 40], argTypes := #[28, 28] }, type := 28, pos := "law.go:84", after := #[{ on := 3, ground := .data }, { on := 5, ground := .data }, { on := 3, ground := .chain }], guard := none }) rfl (fun K hK => ?_) (AllReadyH.cons (o := { dst := some 9, op := .alloc 25, type := 0, pos := "law.go:84", after := #[], guard := none }) rfl (fun K hK => ?_) AllReadyH.nil))
        have hx : Below w5.heap.size w5 Wc := hHeld
        have _h5 := hx.size
        have hr := reads_rm clB_len (by decide) (rm_bnd (hBD.out ▸ hF))
        refine App.step_append_any _ rfl (.tmp 38) (.tmp 40) _ (by rfl) w5.heap.size 27 i0 _ 6 64 Tryz.underlying28 HI.out HZ0.out HZ1.out HZ2.out rfl (by omega) _ N _ (by rfl) hO _ _ 1 1 _ (by rfl) hr (rowB_one _) (by simp only [maxLen]; omega) (by omega) (by omega) ?_
        intro x2 Wd hown1 hg1 hat2
        have hx2 := below_own hx (Nat.le_refl _) hO hg1
        refine hK.out _ _ hx2 (fun hHeld => ?_)
        (try replace hP := blk_grown hP hg1 (by intro e; have h1 := hx1lt _ e; rcases hat1 with h | h <;> (have e2 := h.symm.trans e; (try simp only [Value.ownBlock] at e2); injection e2 with e2; omega)))
        clear hO hF
        have hO := hown1
        have hF : True := trivial
        clear hr hg1 hown1 hx hx2 hat2
        rename World => Wc
        clear hK K
        try simp only [Act.put, List.setIfInBounds_toArray, List.set_cons_zero, List.set_cons_succ]
        rotate_left
        go_simp
        have hx := hHeld
        have hbb : Below Wc.heap.size Wc (Wc.alloc (.cells #[.int .i64 0, .int .i64 0, .int .i64 0, .string ⟨#[]⟩, .int .i64 0] 25)) := balloc (Below.refl _ _) _
        have _hsz : Wc.heap.size < (Wc.alloc (.cells #[.int .i64 0, .int .i64 0, .int .i64 0, .string ⟨#[]⟩, .int .i64 0] 25)).heap.size := by simp
        have hnew : Blk (Wc.alloc (.cells #[.int .i64 0, .int .i64 0, .int .i64 0, .string ⟨#[]⟩, .int .i64 0] 25)) Wc.heap.size 25 #[.int .i64 0, .int .i64 0, .int .i64 0, .string ⟨#[]⟩, .int .i64 0] := Blk.new _ _ _
        have hx2 := bstep hx hbb
        have _h5 : w5.heap.size ≤ Wc.heap.size := hx.size
        refine hK.out _ _ hx2 (fun hHeld => ?_)
        (try replace hE := blk_step hE hbb)
        (try replace hO := own_step hO hbb)
        (try replace hF := blk_step hF hbb)
        (try replace hP := blk_step hP hbb)
        clear hP
        have hP := hnew
        clear hnew hx hx2
        generalize Wc.alloc (.cells #[.int .i64 0, .int .i64 0, .int .i64 0, .string ⟨#[]⟩, .int .i64 0] 25) = Wd at *
        rename World => Wc
        clear hK K
        try simp only [Act.put, List.setIfInBounds_toArray, List.set_cons_zero, List.set_cons_succ]
        rotate_left)
   all_goals first
     | (skip
        refine wpAnyH_ready (rs := [7]) (by decide +kernel) (by simp) ?_
        refine (AllReadyH.cons (o := { dst := some 42, op := .call { callee := .value (.func 10), args := #[.tmp 35, .tmp 41], argTypes := #[33, 28] }, type := 37, pos := "law.go:84", after := #[{ on := 0, ground := .data }, { on := 6, ground := .data }, { on := 6, ground := .chain }], guard := none }) rfl (fun K hK => ?_) AllReadyH.nil)
        have hx : Below w5.heap.size w5 Wc := hHeld
        obtain ⟨A2, c2, e2, hrm2, _, _, _⟩ := own_rm clB_len (L := L ++ [b]) (by rw [rowL_app]; exact hO) (by rw [List.length_append, hLN]; simp)
        subst e2
        go_simp
        refine (KV2.out _ A2 c2 (bstep hb05 hx) hrm2).mono ?_
        rintro e Wd ⟨rfl, hbb⟩
        have hx2 := bstep hx hbb
        dsimp only
        refine hK.out _ _ hx2 (fun hHeld => ?_)
        (try replace hP := blk_step hP hbb)
        clear hO hrm2 hx hx2 hbb
        rename World => Wc
        clear hK K
        try simp only [Act.put, List.setIfInBounds_toArray, List.set_cons_zero, List.set_cons_succ]
        rotate_left
        refine wpAnyH_take (i := 8) (oi := { dst := some 34, op := .move (.tmp 42), type := 37, pos := "law.go:84", after := #[{ on := 7, ground := .data }], guard := none }) (v := ?_) rfl (by kernel_rfl) (by kernel_rfl) (by kernel_rfl) (fun _ _ _ h => h) (Or.inl ⟨by rfl, ?_⟩) (by assumption) ?_
        rotate_left
        · intro w hSw
          clear hSw
          go_simp
          all_goals with_reducible rfl
        try simp only [Act.put, List.setIfInBounds_toArray, List.set_cons_zero, List.set_cons_succ]
        refine wpAnyH_take (i := 9) (oi := { dst := some 43, op := .extract (.tmp 34) 0, type := 25, pos := "law.go:84", after := #[{ on := 8, ground := .data }], guard := none }) (v := ?_) rfl (by kernel_rfl) (by kernel_rfl) (by kernel_rfl) (fun _ _ _ h => h) (Or.inl ⟨by rfl, ?_⟩) (by assumption) ?_
        rotate_left
        · intro w hSw
          clear hSw
          go_simp
          all_goals with_reducible rfl
        try simp only [Act.put, List.setIfInBounds_toArray, List.set_cons_zero, List.set_cons_succ]
        refine wpAnyH_take (i := 10) (oi := { dst := some 44, op := .extract (.tmp 34) 1, type := 34, pos := "law.go:84", after := #[{ on := 8, ground := .data }, { on := 12, ground := .gcOnly .lateStores }], guard := none }) (v := ?_) rfl (by kernel_rfl) (by kernel_rfl) (by kernel_rfl) (fun _ _ _ h => h) (Or.inl ⟨by rfl, ?_⟩) (by assumption) ?_
        rotate_left
        · intro w hSw
          clear hSw
          go_simp
          all_goals with_reducible rfl
        try simp only [Act.put, List.setIfInBounds_toArray, List.set_cons_zero, List.set_cons_succ])
     | (skip
        refine wpAnyH_take (i := 8) (oi := { dst := some 34, op := .move (.tmp 42), type := 37, pos := "law.go:84", after := #[{ on := 7, ground := .data }], guard := none }) (v := ?_) rfl (by kernel_rfl) (by kernel_rfl) (by kernel_rfl) (fun _ _ _ h => h) (Or.inl ⟨by rfl, ?_⟩) (by assumption) ?_
        rotate_left
        · intro w hSw
          clear hSw
          go_simp
          all_goals with_reducible rfl
        try simp only [Act.put, List.setIfInBounds_toArray, List.set_cons_zero, List.set_cons_succ]
        refine wpAnyH_take (i := 9) (oi := { dst := some 43, op := .extract (.tmp 34) 0, type := 25, pos := "law.go:84", after := #[{ on := 8, ground := .data }], guard := none }) (v := ?_) rfl (by kernel_rfl) (by kernel_rfl) (by kernel_rfl) (fun _ _ _ h => h) (Or.inl ⟨by rfl, ?_⟩) (by assumption) ?_
        rotate_left
        · intro w hSw
          clear hSw
          go_simp
          all_goals with_reducible rfl
        try simp only [Act.put, List.setIfInBounds_toArray, List.set_cons_zero, List.set_cons_succ]
        refine wpAnyH_take (i := 10) (oi := { dst := some 44, op := .extract (.tmp 34) 1, type := 34, pos := "law.go:84", after := #[{ on := 8, ground := .data }, { on := 12, ground := .gcOnly .lateStores }], guard := none }) (v := ?_) rfl (by kernel_rfl) (by kernel_rfl) (by kernel_rfl) (fun _ _ _ h => h) (Or.inl ⟨by rfl, ?_⟩) (by assumption) ?_
        rotate_left
        · intro w hSw
          clear hSw
          go_simp
          all_goals with_reducible rfl
        try simp only [Act.put, List.setIfInBounds_toArray, List.set_cons_zero, List.set_cons_succ]
        refine wpAnyH_ready (rs := [11]) (by decide +kernel) (by simp) ?_
        refine (AllReadyH.cons (o := { dst := some 9, op := .alloc 25, type := 0, pos := "law.go:84", after := #[], guard := none }) rfl (fun K hK => ?_) AllReadyH.nil)
        go_simp
        have hx := hHeld
        have hbb : Below Wc.heap.size Wc (Wc.alloc (.cells #[.int .i64 0, .int .i64 0, .int .i64 0, .string ⟨#[]⟩, .int .i64 0] 25)) := balloc (Below.refl _ _) _
        have _hsz : Wc.heap.size < (Wc.alloc (.cells #[.int .i64 0, .int .i64 0, .int .i64 0, .string ⟨#[]⟩, .int .i64 0] 25)).heap.size := by simp
        have hnew : Blk (Wc.alloc (.cells #[.int .i64 0, .int .i64 0, .int .i64 0, .string ⟨#[]⟩, .int .i64 0] 25)) Wc.heap.size 25 #[.int .i64 0, .int .i64 0, .int .i64 0, .string ⟨#[]⟩, .int .i64 0] := Blk.new _ _ _
        have hx2 := bstep hx hbb
        have _h5 : w5.heap.size ≤ Wc.heap.size := hx.size
        refine hK.out _ _ hx2 (fun hHeld => ?_)
        (try replace hE := blk_step hE hbb)
        (try replace hO := own_step hO hbb)
        (try replace hF := blk_step hF hbb)
        (try replace hP := blk_step hP hbb)
        clear hP
        have hP := hnew
        clear hnew hx hx2
        generalize Wc.alloc (.cells #[.int .i64 0, .int .i64 0, .int .i64 0, .string ⟨#[]⟩, .int .i64 0] 25) = Wd at *
        rename World => Wc
        clear hK K
        try simp only [Act.put, List.setIfInBounds_toArray, List.set_cons_zero, List.set_cons_succ]
        rotate_left)
   all_goals (
     refine wpAnyH_ready (rs := [12]) (by decide +kernel) (by simp) ?_
     refine (AllReadyH.cons (o := { dst := none, op := .store 25 (.tmp 9) (.tmp 43), type := 0, pos := "law.go:84", after := #[{ on := 11, ground := .data }, { on := 9, ground := .data }, { on := 7, ground := .chain }, { on := 0, ground := .phase }, { on := 1, ground := .phase }, { on := 2, ground := .phase }, { on := 3, ground := .phase }, { on := 4, ground := .phase }, { on := 5, ground := .phase }, { on := 6, ground := .phase }, { on := 7, ground := .phase }, { on := 8, ground := .phase }, { on := 9, ground := .phase }, { on := 10, ground := .textOnly .lateStores }, { on := 11, ground := .phase }], guard := none }) rfl (fun K hK => ?_) AllReadyH.nil)
     have hx : Below w5.heap.size w5 Wc := hHeld
     refine store_step rfl _ (.tmp 9) (.tmp 43) rfl (by rfl) (by rfl) hP (by rfl) (by kernel_rfl) (by simp [Value.oneCell']) ?_
     intro Wd hPn ht
     have hx2 := bturn hx ht (by omega)
     refine hK.out _ _ hx2 (fun hHeld => ?_)
     clear hP
     have hP := hPn
     clear hPn ht hx hx2
     rename World => Wc
     clear hK K
     try simp only [Act.put, List.setIfInBounds_toArray, List.set_cons_zero, List.set_cons_succ]
     rotate_left
     refine wpAnyH_take (i := 13) (oi := { dst := some 10, op := .assign (.tmp 44), type := 34, pos := "law.go:84", after := #[{ on := 10, ground := .data }, { on := 12, ground := .chain }, { on := 0, ground := .phase }, { on := 1, ground := .phase }, { on := 2, ground := .phase }, { on := 3, ground := .phase }, { on := 4, ground := .phase }, { on := 5, ground := .phase }, { on := 6, ground := .phase }, { on := 7, ground := .phase }, { on := 8, ground := .phase }, { on := 9, ground := .phase }, { on := 10, ground := .phase }, { on := 11, ground := .phase }, { on := 12, ground := .phase }], guard := none }) (v := ?_) rfl (by kernel_rfl) (by kernel_rfl) (by kernel_rfl) (fun _ _ _ h => h) (Or.inl ⟨by rfl, ?_⟩) (by assumption) ?_
     rotate_left
     · intro w hSw
       clear hSw
       go_simp
       all_goals with_reducible rfl
     try simp only [Act.put, List.setIfInBounds_toArray, List.set_cons_zero, List.set_cons_succ]
     refine wpAnyH_done (by kernel_rfl) ?_ _
     )
   all_goals
     go_wp2_with fail
     go_meet
     case rel => exact ⟨_, rfl, rfl, hHeld, hP⟩
 case rest =>
   obtain ⟨g, rfl, rfl, hb56, kP⟩ := hcut
   rename World => w6
   have hb06 := bstep hb05 hb56
   have kr := Kr5.out.step hb56
   obtain ⟨hlu, hllu, qu0, qu1, qu2, qu3, qu4, zu0, zu1, zu2, zu3, zu4⟩ := bf5 kr; (try simp at qu0 qu1 qu2 qu3 qu4); have Hkr := Lib.hid kr; clear kr
   obtain ⟨hlv, hllv, qv0, qv1, qv2, qv3, qv4, zv0, zv1, zv2, zv3, zv4⟩ := bf5 kP; (try simp at qv0 qv1 qv2 qv3 qv4); have HkP := Lib.hid kP; clear kP
   have hself := vlq_self ak an as' am aq
   go_wp2_with fail
   refine (HV.out _ hb06).mono ?_
   rintro _ w7 ⟨rfl, hb7⟩
   go_wp2_with fail
   go_returns
   exact ⟨by first | rfl | simp, bstep hb06 hb7⟩
end Go.Proofs.YtapilekangmcoaaGreatDoor
