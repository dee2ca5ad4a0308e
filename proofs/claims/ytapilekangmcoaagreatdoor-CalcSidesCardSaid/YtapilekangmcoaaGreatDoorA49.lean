/- The law CalcSides answers true, whatever the two values are. -/
import Derived.Test.YtapilekangmcoaaGreatDoorA48
set_option linter.unusedVariables false
set_option linter.unusedSimpArgs false
set_option maxHeartbeats 8000000
set_option maxRecDepth 100000
namespace Go.Proofs.YtapilekangmcoaaGreatDoor
open Go.RowKit Go.Shelf
theorem es_ev {x : Ex} (h : ES wordB x) : EV x := by
 induction h with
 | val v hv h0 => exact EV.leaf (vs_ok hv)
 | name s hs => exact EV.leaf zero_vok
 | neg a ha ih => exact ev_1 ih
 | not a ha ih => exact ev_1 ih
 | bin o a b h4 h15 ha hb iha ihb => exact ev_2 iha ihb
 | ife a b c ha hb hc iha ihb ihc => exact ev_3 iha ihb ihc
def abL (a b : Vl) : List (Bs × Vl) := [([97], a), ([98], b)]
theorem pair_of (a b : Vl) (ha : VOk a) (hb : VOk b) (m : Int) (w : World) (hw : OKW m w) (hn : NU w) {x y : Ex} {s t : Bs} (hx : ES wordB x) (hy : ES wordB y) (dx : dep x ≤ 64) (dy : dep y ≤ 64) (cx : cnt x ≤ 4096) (cy : cnt y ≤ 4096)
   (tx : etxt x = s) (ty : etxt y = t) (ls : s.length ≤ 65536) (lt : t.length ≤ 65536) (he : evalO (abL a b) x = evalO (abL a b) y) :
   PairC w #[.string ⟨#[97]⟩, .int .i64 a.k, .int .i64 a.n, .int .i64 a.s, .string (bs a.t), .int .i64 a.m, .string ⟨#[98]⟩, .int .i64 b.k, .int .i64 b.n, .int .i64 b.s, .string (bs b.t), .int .i64 b.m] (bs s) (bs t) := by
 refine ⟨x, y, (evalO (abL a b) x).1.k, (evalO (abL a b) x).1.n, (evalO (abL a b) x).1.s, (evalO (abL a b) x).1.m, (evalO (abL a b) x).2, bs (evalO (abL a b) x).1.t, closed_walk m w hw hx dx cx tx ls, closed_walk m w hw hy dy cy ty lt, fun z cs g W hz hW hxm hB => ?_⟩
 have hL0 : ∀ c ∈ abL a b, VOk c.2 := by
   intro c hc
   unfold abL at hc
   simp at hc
   rcases hc with rfl | rfl
   · exact ha
   · exact hb
 have hlen : ((abL a b).length : Int) ≤ 9223372036854775807 := by unfold abL; simp
 rcases hz with rfl | rfl
 · exact Eval_any (abL a b) (some ⟨g, 0, none⟩) 2 z cs (es_ev hx) hL0 hlen m W (hw.step hW) (hn.step hW) hxm (rmb_row hB rfl)
 · rw [he]
   exact Eval_any (abL a b) (some ⟨g, 0, none⟩) 2 z cs (es_ev hy) hL0 hlen m W (hw.step hW) (hn.step hW) hxm (rmb_row hB rfl)
theorem side_eval (a b : Vl) {x : Ex} (hx : ES wordB x) (dx : dep x ≤ 64) (cx : cnt x ≤ 4096) (hnm : ∀ n ∈ nmsE x, n = [97] ∨ n = [98]) : evalO (abL a b) x = if (sd a && sd b) = true then (evalE (abL a b) x, 0) else (zeroV, 2) := by
 have h1 : (soundX x && (abL a b).all fun b => sd b.2) = (sd a && sd b) := by
   rw [(soundX_iff x).2 ⟨hx, dx, cx⟩, Bool.true_and]
   unfold abL
   simp
 have h2 : ((nmsE x).all fun n => boundB (abL a b) n) = true := by
   rw [List.all_eq_true]
   intro n hn
   rcases hnm n hn with rfl | rfl
   · simp [boundB, abL]
   · simp [boundB, abL]
 unfold evalO
 rw [h1, if_pos h2]
theorem ev_o2 (a b : Vl) (o : Int) (c d : UInt8) : evalE (abL a b) (o2 o c d) = binS o (lookL (abL a b) [c]) (lookL (abL a b) [d]) := by
 have l : ∀ x, evalE (abL a b) (akN x) = lookL (abL a b) [x] := fun x => by
   unfold akN
   simp only [evalE, show ¬ (2 : Int) = 1 by decide, if_false]
 unfold o2
 simp only [evalE, l]
theorem ev_no (a b : Vl) (x : Ex) : evalE (abL a b) (no x) = notC (evalE (abL a b) x) := by
 unfold no
 simp only [evalE, show ¬ (16 : Int) = 3 by decide, if_false]
theorem look_a (a b : Vl) : lookL (abL a b) [97] = a := by simp [lookL, abL]
theorem look_b (a b : Vl) : lookL (abL a b) [98] = b := by simp [lookL, abL]
theorem wa : wordB [97] = true := by decide
theorem wb : wordB [98] = true := by decide
theorem wab {c : UInt8} (h : c = 97 ∨ c = 98) : wordB [c] = true := by
 rcases h with rfl | rfl
 · exact wa
 · exact wb
theorem nms_o2 {o : Int} (h : ¬ o = 2) {c d : UInt8} (hc : c = 97 ∨ c = 98) (hd : d = 97 ∨ d = 98) : ∀ n ∈ nmsE (o2 o c d), n = [97] ∨ n = [98] := by
 intro n hn
 unfold o2 akN at hn
 simp [nmsE, nmsL, h] at hn
 rcases hn with rfl | rfl
 · rcases hc with rfl | rfl <;> simp
 · rcases hd with rfl | rfl <;> simp
theorem nms_no (x : Ex) : nmsE (no x) = nmsE x := by unfold no; simp [nmsE, nmsL]
theorem b8 (a b : Vl) : binS 8 a b = eqC a b := by simp [binS]
theorem b9 (a b : Vl) : binS 9 a b = notC (eqC a b) := by simp [binS]
theorem b10 (a b : Vl) : binS 10 a b = lessC a b := by simp [binS]
theorem b11 (a b : Vl) : binS 11 a b = notC (lessC b a) := by simp [binS]
theorem b12 (a b : Vl) : binS 12 a b = lessC b a := by simp [binS]
theorem b13 (a b : Vl) : binS 13 a b = notC (lessC a b) := by simp [binS]
theorem csides_any (a b : Vl) (ha : VOk a) (hb : VOk b) (m : Int) (w : World) (hw : OKW m w) (hn : NU w) :
   Calls Tryz.prog 3 #[.agg (cellsV a), .agg (cellsV b)] w fun e w' => e = .returned (.bool true) ∧ Below w.heap.size w w' := by
 have HA := Lib.hid fun W (hW : Below w.heap.size w W) => calc_awake m W (hw.step hW) (hn.step hW)
 have T : ∀ {x : Ex} {t : Bs}, (etxt x == t) = true → etxt x = t := fun h => by simpa using h
 have e2 : ∀ {o : Int} {c d : UInt8}, 4 ≤ o → o ≤ 15 → (c = 97 ∨ c = 98) → (d = 97 ∨ d = 98) → ES wordB (o2 o c d) := fun h4 h15 hc hd => o2_es h4 h15 (wab hc) (wab hd)
 have s2 : ∀ {o : Int} {c d : UInt8} (h4 : 4 ≤ o) (h15 : o ≤ 15) (hc : c = 97 ∨ c = 98) (hd : d = 97 ∨ d = 98), evalO (abL a b) (o2 o c d) = if (sd a && sd b) = true then (binS o (lookL (abL a b) [c]) (lookL (abL a b) [d]), 0) else (zeroV, 2) := fun {o c d} h4 h15 hc hd => by
   rw [side_eval a b (e2 h4 h15 hc hd) (by unfold o2 akN; simp [dep]) (by unfold o2 akN; simp [cnt]) (nms_o2 (by omega) hc hd), ev_o2]
 have s1 : ∀ {o : Int} {c d : UInt8} (h4 : 4 ≤ o) (h15 : o ≤ 15) (hc : c = 97 ∨ c = 98) (hd : d = 97 ∨ d = 98), evalO (abL a b) (no (o2 o c d)) = if (sd a && sd b) = true then (notC (binS o (lookL (abL a b) [c]) (lookL (abL a b) [d])), 0) else (zeroV, 2) := fun {o c d} h4 h15 hc hd => by
   rw [side_eval a b (x := no (o2 o c d)) (.not _ (e2 h4 h15 hc hd)) (by unfold no o2 akN; simp [dep]) (by unfold no o2 akN; simp [cnt]) (by rw [nms_no]; exact nms_o2 (by omega) hc hd), ev_no, ev_o2]
 have s0 : ∀ {o : Int} {c d : UInt8} (h4 : 4 ≤ o) (h15 : o ≤ 15) (hc : c = 97 ∨ c = 98) (hd : d = 97 ∨ d = 98), evalO (abL a b) (no (no (o2 o c d))) = if (sd a && sd b) = true then (notC (notC (binS o (lookL (abL a b) [c]) (lookL (abL a b) [d]))), 0) else (zeroV, 2) := fun {o c d} h4 h15 hc hd => by
   rw [side_eval a b (x := no (no (o2 o c d))) (.not _ (.not _ (e2 h4 h15 hc hd))) (by unfold no o2 akN; simp [dep]) (by unfold no o2 akN; simp [cnt]) (by rw [nms_no, nms_no]; exact nms_o2 (by omega) hc hd), ev_no, ev_no, ev_o2]
 have A : (97 : UInt8) = 97 ∨ (97 : UInt8) = 98 := .inl rfl
 have B : (98 : UInt8) = 97 ∨ (98 : UInt8) = 98 := .inr rfl
 have dd : ∀ {o : Int} {c d : UInt8}, dep (o2 o c d) ≤ 64 := fun {o c d} => by unfold o2 akN; simp [dep]
 have cc : ∀ {o : Int} {c d : UInt8}, cnt (o2 o c d) ≤ 4096 := fun {o c d} => by unfold o2 akN; simp [cnt]
 have d1 : ∀ {o : Int} {c d : UInt8}, dep (no (o2 o c d)) ≤ 64 := fun {o c d} => by unfold no o2 akN; simp [dep]
 have c1 : ∀ {o : Int} {c d : UInt8}, cnt (no (o2 o c d)) ≤ 4096 := fun {o c d} => by unfold no o2 akN; simp [cnt]
 have d0 : ∀ {o : Int} {c d : UInt8}, dep (no (no (o2 o c d))) ≤ 64 := fun {o c d} => by unfold no o2 akN; simp [dep]
 have c0 : ∀ {o : Int} {c d : UInt8}, cnt (no (no (o2 o c d))) ≤ 4096 := fun {o c d} => by unfold no o2 akN; simp [cnt]
 have P0 := pair_of a b ha hb m w hw hn (x := o2 10 97 98) (y := o2 12 98 97) (s := [97, 32, 60, 32, 98]) (t := [98, 32, 62, 32, 97]) (e2 (by decide) (by decide) A B) (e2 (by decide) (by decide) B A) dd dd cc cc (T (by unfold o2 akN; simp only [etxt]; decide +kernel)) (T (by unfold o2 akN; simp only [etxt]; decide +kernel)) (by decide) (by decide) (by rw [s2 (by decide) (by decide) A B, s2 (by decide) (by decide) B A, look_a, look_b, b10, b12])
 have P1 := pair_of a b ha hb m w hw hn (x := o2 11 97 98) (y := no (o2 10 98 97)) (s := [97, 32, 60, 61, 32, 98]) (t := [110, 111, 116, 40, 98, 32, 60, 32, 97, 41]) (e2 (by decide) (by decide) A B) (.not _ (e2 (by decide) (by decide) B A)) dd d1 cc c1 (T (by unfold o2 akN; simp only [etxt]; decide +kernel)) (T (by unfold no o2 akN; simp only [etxt]; decide +kernel)) (by decide) (by decide) (by rw [s2 (by decide) (by decide) A B, s1 (by decide) (by decide) B A, look_a, look_b, b11, b10])
 have P2 := pair_of a b ha hb m w hw hn (x := o2 13 97 98) (y := o2 11 98 97) (s := [97, 32, 62, 61, 32, 98]) (t := [98, 32, 60, 61, 32, 97]) (e2 (by decide) (by decide) A B) (e2 (by decide) (by decide) B A) dd dd cc cc (T (by unfold o2 akN; simp only [etxt]; decide +kernel)) (T (by unfold o2 akN; simp only [etxt]; decide +kernel)) (by decide) (by decide) (by rw [s2 (by decide) (by decide) A B, s2 (by decide) (by decide) B A, look_a, look_b, b13, b11])
 have P3 := pair_of a b ha hb m w hw hn (x := o2 9 97 98) (y := no (o2 8 97 98)) (s := [97, 32, 33, 61, 32, 98]) (t := [110, 111, 116, 40, 97, 32, 61, 32, 98, 41]) (e2 (by decide) (by decide) A B) (.not _ (e2 (by decide) (by decide) A B)) dd d1 cc c1 (T (by unfold o2 akN; simp only [etxt]; decide +kernel)) (T (by unfold no o2 akN; simp only [etxt]; decide +kernel)) (by decide) (by decide) (by rw [s2 (by decide) (by decide) A B, s1 (by decide) (by decide) A B, look_a, look_b, b9, b8])
 have P4 := pair_of a b ha hb m w hw hn (x := o2 8 97 98) (y := o2 8 98 97) (s := [97, 32, 61, 32, 98]) (t := [98, 32, 61, 32, 97]) (e2 (by decide) (by decide) A B) (e2 (by decide) (by decide) B A) dd dd cc cc (T (by unfold o2 akN; simp only [etxt]; decide +kernel)) (T (by unfold o2 akN; simp only [etxt]; decide +kernel)) (by decide) (by decide) (by rw [s2 (by decide) (by decide) A B, s2 (by decide) (by decide) B A, look_a, look_b, b8, b8, eqC_turn])
 have P5 := pair_of a b ha hb m w hw hn (x := o2 10 97 98) (y := no (no (o2 10 97 98))) (s := [97, 32, 60, 32, 98]) (t := [110, 111, 116, 40, 110, 111, 116, 40, 97, 32, 60, 32, 98, 41, 41]) (e2 (by decide) (by decide) A B) (.not _ (.not _ (e2 (by decide) (by decide) A B))) dd d0 cc c0 (T (by unfold o2 akN; simp only [etxt]; decide +kernel)) (T (by unfold no o2 akN; simp only [etxt]; decide +kernel)) (by decide) (by decide) (by rw [s2 (by decide) (by decide) A B, s0 (by decide) (by decide) A B, look_a, look_b, b10, not_not (less_way a b)])
 exact cs_walk _ _ _ _ _ _ _ _ _ _ w HA (Lib.hid P0) (Lib.hid P1) (Lib.hid P2) (Lib.hid P3) (Lib.hid P4) (Lib.hid P5)
end Go.Proofs.YtapilekangmcoaaGreatDoor
