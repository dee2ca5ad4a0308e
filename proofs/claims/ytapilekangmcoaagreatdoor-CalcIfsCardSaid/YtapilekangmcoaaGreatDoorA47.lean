/- The law CalcIfs answers true, whatever the three values are. -/
import Derived.Test.YtapilekangmcoaaGreatDoorA44
import Derived.Test.YtapilekangmcoaaGreatDoorA53
set_option linter.unusedVariables false
set_option linter.unusedSimpArgs false
set_option maxHeartbeats 8000000
set_option maxRecDepth 100000
namespace Go.Proofs.YtapilekangmcoaaGreatDoor
open Go.RowKit Go.Shelf
theorem if_es : ES wordB ifX := .ife _ _ _ (.name _ (by decide)) (.name _ (by decide)) (.name _ (by decide))
theorem if_text : etxt ifX = [105, 102, 32, 97, 32, 116, 104, 101, 110, 32, 98, 32, 101, 108, 115, 101, 32, 99] := by
 unfold ifX akN
 simp only [etxt]
 decide +kernel
theorem if_sound : soundX ifX = true := (soundX_iff ifX).2 ⟨if_es, by decide, by decide⟩
def ifL (a b c : Vl) : List (Bs × Vl) := [([97], a), ([98], b), ([99], c)]
theorem if_eval (a b c : Vl) : evalO (ifL a b c) ifX = if (sd a && (sd b && sd c)) = true then ((if vEq a (truV true) = true then b else c), 0) else (zeroV, 2) := by
 have h1 : (soundX ifX && (ifL a b c).all fun b => sd b.2) = (sd a && (sd b && sd c)) := by
   rw [if_sound, Bool.true_and]
   unfold ifL
   simp
 have h2 : ((nmsE ifX).all fun n => boundB (ifL a b c) n) = true := by
   unfold ifX akN ifL boundB
   simp [nmsE, nmsL]
 have l : ∀ x, evalE (ifL a b c) (akN x) = lookL (ifL a b c) [x] := fun x => by
   unfold akN
   simp only [evalE, show ¬ (2 : Int) = 1 by decide, if_false]
 have e : evalE (ifL a b c) ifX = if vEq a (truV true) = true then b else c := by
   unfold ifX
   rw [show ∀ x y z, evalE (ifL a b c) (.mk 17 zeroV [] [x, y, z]) = if vEq (evalE (ifL a b c) x) (truV true) = true then evalE (ifL a b c) y else evalE (ifL a b c) z from fun x y z => by simp only [evalE], l, l, l]
   unfold ifL
   simp [lookL]
 unfold evalO
 rw [h1, if_pos h2, e]
theorem cif_any (a b c : Vl) (ha : VOk a) (hb : VOk b) (hc : VOk c) (m : Int) (w : World) (hw : OKW m w) (hn : NU w) :
   Calls Tryz.prog 8 #[.agg (cellsV a), .agg (cellsV b), .agg (cellsV c)] w fun e w' => e = .returned (.bool true) ∧ Below w.heap.size w w' := by
 have HP : Hid (∀ W, Below w.heap.size w W → Calls Tryz.prog 9 #[.string ⟨#[105, 102, 32, 97, 32, 116, 104, 101, 110, 32, 98, 32, 101, 108, 115, 101, 32, 99]⟩] W fun x w' => (∃ A c, x = .returned (.tuple #[.agg #[.int .i64 17, .int .i64 0, .int .i64 0, .int .i64 0, .string ⟨#[]⟩, .int .i64 0, .string ⟨#[]⟩, .slice A 3 c], .int .i64 0, .int .i64 0]) ∧ XM (fun _ => True) w' ifX #[.int .i64 17, .int .i64 0, .int .i64 0, .int .i64 0, .string ⟨#[]⟩, .int .i64 0, .string ⟨#[]⟩, .slice A 3 c]) ∧ Below W.heap.size W w') := Lib.hid fun W hW => by
   refine (closed_walk m w hw if_es (by decide) (by decide) if_text (by decide) W hW).mono ?_
   rintro e w' ⟨⟨cs, rfl, hx⟩, hb'⟩
   obtain ⟨A, c, hcs⟩ := hx.get
   replace hcs : cs = #[.int .i64 17, .int .i64 0, .int .i64 0, .int .i64 0, .string ⟨#[]⟩, .int .i64 0, .string ⟨#[]⟩, .slice A 3 c] := hcs
   subst hcs
   exact ⟨⟨A, c, rfl, hx⟩, hb'⟩
 have HE := fun (cs : Array Value) (g : Nat) W (hW : Below w.heap.size w W) (hx : XM (fun _ => True) W ifX cs) (hB : Blk W g 27 #[.string ⟨#[97]⟩, .int .i64 a.k, .int .i64 a.n, .int .i64 a.s, .string (bs a.t), .int .i64 a.m, .string ⟨#[98]⟩, .int .i64 b.k, .int .i64 b.n, .int .i64 b.s, .string (bs b.t), .int .i64 b.m, .string ⟨#[99]⟩, .int .i64 c.k, .int .i64 c.n, .int .i64 c.s, .string (bs c.t), .int .i64 c.m]) =>
   Eval_any (ifL a b c) (some ⟨g, 0, none⟩) 3 ifX cs (ev_3 (name_ev 97) (name_ev 98) (name_ev 99)) (by
     intro x hx
     unfold ifL at hx
     simp at hx
     rcases hx with rfl | rfl | rfl
     · exact ha
     · exact hb
     · exact hc) (by unfold ifL; simp) m W (hw.step hW) (hn.step hW) hx (rmb_row hB rfl)
 rw [if_eval] at HE
 have HA := Lib.hid fun W (hW : Below w.heap.size w W) => calc_awake m W (hw.step hW) (hn.step hW)
 have HSa := fun W (_ : Below w.heap.size w W) => r4_sd a ha W
 have HSb := fun W (_ : Below w.heap.size w W) => r4_sd b hb W
 have HSc := fun W (_ : Below w.heap.size w W) => r4_sd c hc W
 have HT := Lib.hid fun W (_ : Below w.heap.size w W) => rtruth_vl true W
 obtain ⟨D, hD⟩ : ∃ D, (if (sd a && (sd b && sd c)) = true then ((if vEq a (truV true) = true then b else c), 0) else (zeroV, 2) : Vl × Int) = D := ⟨_, rfl⟩
 rw [hD] at HE
 have hv := vlq_eq a (truV true)
 have hz : ¬ (sd a && (sd b && sd c)) = true → D.1.k = 0 ∧ D.1.n = 0 ∧ D.1.s = 0 ∧ bs D.1.t = ⟨#[]⟩ ∧ D.1.m = 0 ∧ D.2 = 2 := fun h => by
   rw [← hD, if_neg h]
   exact ⟨rfl, rfl, rfl, rfl, rfl, rfl⟩
 refine ci_walk _ _ _ _ _ _ _ _ _ _ _ _ _ _ _ D.1.k D.1.n D.1.s D.1.m (bs D.1.t) D.2 (sd a) (sd b) (sd c) w (Lib.hid ⟨fun h => hz (by rw [h]; simp), fun h => hz (by rw [h]; simp), fun h => hz (by rw [h]; simp), fun h1 h2 h3 => ?_⟩) HP (Lib.hid HE) HA (Lib.hid HSa) (Lib.hid HSb) (Lib.hid HSc) HT
 have h : (sd a && (sd b && sd c)) = true := by rw [h1, h2, h3]; rfl
 cases he : vEq a (truV true) with
 | true =>
   rw [he] at hv
   refine .inl ⟨hv, ?_⟩
   rw [← hD, if_pos h, he, if_pos rfl]
   exact ⟨rfl, rfl, rfl, rfl, rfl, rfl⟩
 | false =>
   rw [he] at hv
   refine .inr ⟨hv, ?_⟩
   rw [← hD, if_pos h, he, if_neg (by decide)]
   exact ⟨rfl, rfl, rfl, rfl, rfl, rfl⟩
end Go.Proofs.YtapilekangmcoaaGreatDoor
