/- What every law of package calc calls: awake. -/
import Derived.Test.YtapilekangmcoaaGreatDoorA33
import Derived.Test.YtapilekangmcoaaGreatDoorA23
import Derived.Test.YtapilekangmcoaaGreatDoorA38
set_option linter.unusedVariables false
set_option linter.unusedSimpArgs false
set_option maxHeartbeats 8000000
set_option maxRecDepth 100000
namespace Go.Proofs.YtapilekangmcoaaGreatDoor
open Go.Proofs.YtapilekangmcoaaGreatDoor.Dq
open Go.RowKit Go.Shelf
attribute [local go_sem high] run_vl_eql run_vl_neq
def ckN : Vl := ⟨1, 3, 0, [], 0⟩
def ckBnd : List (Bs × Vl) := [([97], ckN)]
theorem ckN_sound : vSound ckN := .inr (.inl ⟨rfl, by decide, rfl, rfl⟩)
theorem ck2_sound : vSound (akV 2) := .inr (.inl ⟨rfl, by decide, rfl, rfl⟩)
theorem ck_ev : EV ckX := by
 have l : EV (akN 97) := .mk 2 zeroV [97] [] zero_vok (by simp)
 have n2 : EV (.mk 1 (akV 2) [] []) := .mk _ _ _ _ (vs_ok ck2_sound) (by simp)
 have n5 : EV (.mk 1 ⟨1, 25, 1, [], 0⟩ [] []) := .mk _ _ _ _ (vs_ok (.inr (.inl ⟨rfl, by decide, rfl, rfl⟩))) (by simp)
 have nz : EV (.mk 1 zeroV [] []) := .mk _ _ _ _ zero_vok (by simp)
 exact ev_3 (ev_2 l n2) (ev_2 l n5) nz
theorem ck_eval : evalO ckBnd ckX = (⟨1, 75, 1, [], 0⟩, 0) := by
 have h1 : (soundX ckX && ckBnd.all fun b => sd b.2) = true := by
   rw [ck_sound, Bool.true_and, List.all_eq_true]
   intro b hb
   rw [List.mem_singleton.1 hb]
   exact (sd_iff _).2 ckN_sound
 have h2 : ((nmsE ckX).all fun n => boundB ckBnd n) = true := by decide
 have e1 : lessC (akV 2) ckN = truV true := by
   have h : (sd (akV 2) && sd ckN) = true := by rw [(sd_iff _).2 ck2_sound, (sd_iff _).2 ckN_sound]; rfl
   unfold lessC
   rw [if_pos ⟨h, rfl, by decide, by decide⟩]
   rfl
 have e2 : evalE ckBnd (.mk 12 zeroV [] [akN 97, .mk 1 (akV 2) [] []]) = truV true := by
   have a1 : evalE ckBnd (akN 97) = ckN := by
     unfold akN
     simp only [evalE, show ¬ (2 : Int) = 1 by decide, if_false]
     rfl
   have a2 : evalE ckBnd (.mk 1 (akV 2) [] []) = akV 2 := by simp only [evalE, if_true]
   simp only [evalE, a1, a2]
   unfold binS
   rw [if_neg (by decide), if_neg (by decide), if_neg (by decide), if_pos rfl]
   exact e1
 have e3 : evalE ckBnd (.mk 6 zeroV [] [akN 97, .mk 1 ⟨1, 25, 1, [], 0⟩ [] []]) = ⟨1, 75, 1, [], 0⟩ := by
   have a1 : evalE ckBnd (akN 97) = ckN := by
     unfold akN
     simp only [evalE, show ¬ (2 : Int) = 1 by decide, if_false]
     rfl
   have a2 : evalE ckBnd (.mk 1 ⟨1, 25, 1, [], 0⟩ [] []) = ⟨1, 25, 1, [], 0⟩ := by simp only [evalE, if_true]
   have hm : mulS 3 0 25 1 = ⟨75, 1, 0⟩ := by kernel_rfl
   simp only [evalE, a1, a2]
   unfold binS
   rw [if_neg (by decide), if_neg (by decide), if_neg (by decide), if_neg (by decide), if_neg (by decide), if_neg (by decide), if_neg (by decide), if_neg (by decide)]
   unfold reckS
   rw [if_pos ⟨rfl, rfl⟩, if_neg (by decide), if_neg (by decide), if_pos rfl]
   show dV (mulS 3 0 25 1) = _
   rw [hm]
   rfl
 have e4 : evalE ckBnd ckX = ⟨1, 75, 1, [], 0⟩ := by
   unfold ckX
   rw [show ∀ a b c, evalE ckBnd (.mk 17 zeroV [] [a, b, c]) = if vEq (evalE ckBnd a) (truV true) = true then evalE ckBnd b else evalE ckBnd c from fun a b c => by simp only [evalE], e2, if_pos (vEq_self _)]
   exact e3
 unfold evalO
 rw [if_pos h1, if_pos h2, e4]
theorem rmb_one {w : World} {g : Nat} {T : TypeId} {b : Bs × Vl} (h : Blk w g T #[.string (bs b.1), .int .i64 b.2.k, .int .i64 b.2.n, .int .i64 b.2.s, .string (bs b.2.t), .int .i64 b.2.m]) : RM clB 6 w (some ⟨g, 0, none⟩) [b] := fun i t ht => by
 match i, ht with
 | 0, ht =>
   obtain rfl : b = t := by simpa using ht
   refine ⟨g, 0, rfl, fun j v hj => ?_⟩
   simp only [Nat.zero_mul, Nat.zero_add]
   rw [h.cell j, ← Array.getElem?_toList]
   exact hj
 | i + 1, ht => simp at ht
theorem calc_awake (m : Int) (w : World) (hw : OKW m w) (hn : NU w) : Calls Tryz.prog 11 #[] w fun e w' => e = .returned (.bool true) ∧ Below w.heap.size w w' := by
 have HW := Lib.hid (And.intro hw hn)
 have HP := Lib.hid (fun W (hW : OKW m W) => by
   have h := eparse_any m ⟨#[105, 102, 32, 97, 32, 62, 32, 50, 32, 116, 104, 101, 110, 32, 97, 32, 42, 32, 50, 46, 53, 32, 101, 108, 115, 101, 32, 110, 117, 108, 108]⟩ W hW 600000 (Nat.le_refl _)
   rw [show (⟨#[105, 102, 32, 97, 32, 62, 32, 50, 32, 116, 104, 101, 110, 32, 97, 32, 42, 32, 50, 46, 53, 32, 101, 108, 115, 101, 32, 110, 117, 108, 108]⟩ : ByteArray).data.toList = ckB from rfl, ck_parse m W hW] at h
   unfold EPOut at h
   dsimp only at h
   exact h)
 have HT : Hid (∀ cs g W, OKW m W → NU W → XM (fun _ => True) W ckX cs → Blk W g 27 #[.string ⟨#[97]⟩, .int .i64 1, .int .i64 3, .int .i64 0, .string ⟨#[]⟩, .int .i64 0] → Calls Tryz.prog 10 #[.agg cs, .slice (some ⟨g, 0, none⟩) 1 1] W fun e w' => e = .returned (.tuple #[.agg #[.int .i64 1, .int .i64 75, .int .i64 1, .string ⟨#[]⟩, .int .i64 0], .int .i64 0]) ∧ Below W.heap.size W w') := Lib.hid fun cs g W hW hN hx hB => by
   have h := Eval_any ckBnd (some ⟨g, 0, none⟩) 1 ckX cs ck_ev (by intro b hb; rw [List.mem_singleton.1 hb]; exact vs_ok ckN_sound) (by decide) m W hW hN hx (rmb_one (b := ([97], ckN)) hB)
   rw [ck_eval] at h
   exact h
 clear hw hn
 go_enter Tryz.func11, Tryz.ntmps11
 go_wp2_with fail
 refine (HP.out _ HW.out.1).mono ?_
 rintro e w1 ⟨⟨cs, rfl, hx⟩, hb1⟩
 obtain ⟨A, c, hcs⟩ := hx.get
 replace hcs : cs = #[.int .i64 17, .int .i64 0, .int .i64 0, .int .i64 0, .string ⟨#[]⟩, .int .i64 0, .string ⟨#[]⟩, .slice A 3 c] := hcs
 subst hcs
 have kA : Blk (w1.alloc (.cells #[.int .i64 0, .int .i64 0, .int .i64 0, .int .i64 0, .string ⟨#[]⟩, .int .i64 0, .string ⟨#[]⟩, .slice none 0 0] 33)) w1.heap.size 33 #[.int .i64 0, .int .i64 0, .int .i64 0, .int .i64 0, .string ⟨#[]⟩, .int .i64 0, .string ⟨#[]⟩, .slice none 0 0] := Blk.new _ _ _
 have X1 := Lib.hid (hx.mono fun _ _ _ => trivial)
 clear hx HP
 go_upto_region 2 with (refine wpList_store_blk kA rfl _ _ _ (by rfl) _ (by rfl) (by rfl) (by repeat first | with_reducible first | exact kA | apply Blk.alloc | apply Blk.drew | refine Blk.far ?_ (by simp <;> omega) _ | refine Blk.turn ?_ ‹_› (by omega)) (by rfl) (by kernel_rfl) (by simp [Value.oneCell']) ?_; intro wt kAn ht)
 have hb2 : Below w1.heap.size w1 wt := bturn (balloc (Below.refl _ _) _) ht (Nat.le_refl _)
 have hb02 : Below w.heap.size w wt := bstep hb1 hb2
 have X2 := Lib.hid (X1.out.step hb2)
 have k2 := kAn
 clear kA ht hb1 X1 kAn hb2
 rename World => w2
 obtain ⟨hlu, hllu, qu0, qu1, qu2, qu3, qu4, qu5, qu6, qu7, zu0, zu1, zu2, zu3, zu4, zu5, zu6, zu7⟩ := bf8 k2; (try simp at qu0 qu1 qu2 qu3 qu4 qu5 qu6 qu7); have Hk2 := Lib.hid k2; clear k2
 have hb3 : Below w2.heap.size w2 (w2.alloc (.cells #[.string ⟨#[97]⟩, .int .i64 1, .int .i64 3, .int .i64 0, .string ⟨#[]⟩, .int .i64 0] 27)) := balloc (Below.refl _ _) _
 have hb03 := bstep hb02 hb3
 go_wp2_with (refine wpList_load_blk k2 rfl _ _ (by rfl) (by rfl) (by (repeat first | with_reducible first | exact k2 | apply Blk.alloc | apply Blk.drew | refine Blk.far ?_ (by simp <;> omega) _ | refine Blk.turn ?_ ‹_› (by omega))) _ Tryz.underlying33 rfl (by kernel_rfl) ?_)
 refine (HT.out _ _ _ (HW.out.1.step hb03) (HW.out.2.step hb03) (X2.out.step hb3) (Blk.new _ _ _)).mono ?_
 rintro e w4 ⟨rfl, hb4⟩
 have hb04 := bstep hb03 hb4
 have kR : Blk (w4.alloc (.cells #[.int .i64 0, .int .i64 0, .int .i64 0, .string ⟨#[]⟩, .int .i64 0] 25)) w4.heap.size 25 #[.int .i64 0, .int .i64 0, .int .i64 0, .string ⟨#[]⟩, .int .i64 0] := Blk.new _ _ _
 clear qu0 qu1 qu2 qu3 qu4 qu5 qu6 qu7 zu0 zu1 zu2 zu3 zu4 zu5 zu6 zu7 hlu hllu hb3
 go_upto_region 3 with (refine wpList_store_blk kR rfl _ _ _ (by rfl) _ (by rfl) (by rfl) (by repeat first | with_reducible first | exact kR | apply Blk.alloc | apply Blk.drew | refine Blk.far ?_ (by simp <;> omega) _ | refine Blk.turn ?_ ‹_› (by omega)) (by rfl) (by kernel_rfl) (by simp [Value.oneCell']) ?_; intro wt kRn ht)
 have hb05 : Below w.heap.size w wt := bturn (balloc hb04 _) ht hb04.size
 have k5 := kRn
 clear kR kRn ht hb04
 obtain ⟨hlu, hllu, qu0, qu1, qu2, qu3, qu4, zu0, zu1, zu2, zu3, zu4⟩ := bf5 k5; (try simp at qu0 qu1 qu2 qu3 qu4); have Hk5 := Lib.hid k5; clear k5
 go_wp2_with (refine wpList_load_blk k5 rfl _ _ (by rfl) (by rfl) (by (repeat first | with_reducible first | exact k5 | apply Blk.alloc | apply Blk.drew | refine Blk.far ?_ (by simp <;> omega) _ | refine Blk.turn ?_ ‹_› (by omega))) _ Tryz.underlying25 rfl (by kernel_rfl) ?_)
 go_returns
 exact ⟨by simp [vlq], hb05⟩
end Go.Proofs.YtapilekangmcoaaGreatDoor
