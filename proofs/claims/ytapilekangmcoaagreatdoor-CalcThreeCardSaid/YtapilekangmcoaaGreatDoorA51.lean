/- The law CalcThree answers true, whatever the two values are. -/
import Derived.Test.YtapilekangmcoaaGreatDoorA50
set_option linter.unusedVariables false
set_option linter.unusedSimpArgs false
set_option maxHeartbeats 8000000
set_option maxRecDepth 100000
namespace Go.Proofs.YtapilekangmcoaaGreatDoor
open Go.RowKit Go.Shelf
theorem cnt_trues (v1 v2 v3 : Vl) : cntT [v1, v2, v3] = trues v1 v2 v3 := by
 unfold cntT trues
 by_cases h1 : vEq v1 (truV true) = true <;> by_cases h2 : vEq v2 (truV true) = true <;> by_cases h3 : vEq v3 (truV true) = true <;> simp [h1, h2, h3]
theorem cthree_any (a b : Vl) (ha : VOk a) (hb : VOk b) (m : Int) (w : World) (hw : OKW m w) (hn : NU w) :
   Calls Tryz.prog 6 #[.agg (cellsV a), .agg (cellsV b)] w fun e w' => e = .returned (.bool true) ∧ Below w.heap.size w w' := by
 have HA := Lib.hid fun W (hW : Below w.heap.size w W) => calc_awake m W (hw.step hW) (hn.step hW)
 have HT := Lib.hid fun W (_ : Below w.heap.size w W) => rtruth_vl true W
 have KL := Lib.hid fun W (hW : Below w.heap.size w W) => less_vl a b ha hb m W (hw.step hW) (hn.step hW)
 have KE := Lib.hid fun W (hW : Below w.heap.size w W) => equal_vl a b ha hb m W (hw.step hW) (hn.step hW)
 have KM := Lib.hid fun W (hW : Below w.heap.size w W) => less_vl b a hb ha m W (hw.step hW) (hn.step hW)
 have HSa := fun W (_ : Below w.heap.size w W) => r4_sd a ha W
 have HSb := fun W (_ : Below w.heap.size w W) => r4_sd b hb W
 obtain ⟨t1, t2⟩ := three a b
 have hc := cnt_trues (lessC a b) (eqC a b) (lessC b a)
 refine ct_walk _ _ _ _ _ _ _ _ _ _ _ _ _ (sd a) (sd b) _ w (Lib.hid hc) (Lib.hid ⟨fun sa => t1 (by rw [sa]; simp), fun _ sb => t1 (by rw [sb]; simp), fun sa sb => ?_⟩) KL KE KM HA HT (Lib.hid HSa) (Lib.hid HSb)
 obtain ⟨t3, t4⟩ := t2 (by rw [sa, sb]; rfl)
 by_cases hg : a.k = b.k ∧ ¬ a.k = 3 ∧ ¬ a.k = 0
 · exact .inl ⟨by simpa using hg.1, by simpa using hg.2.1, by simpa using hg.2.2, t3 hg⟩
 · obtain ⟨q1, q2⟩ := t4 hg
   refine .inr ⟨vEq a b, by omega, ?_, vlq_eq a b, ?_⟩
   · rw [Bool.eq_iff_iff, beq_iff_eq, vEq_iff, ← q2]
     omega
   · by_cases h1 : a.k = b.k
     · by_cases h2 : a.k = 3
       · exact .inr (.inl ⟨by simpa using h1, by simp [h2]⟩)
       · have h3 : a.k = 0 := Classical.byContradiction fun h => hg ⟨h1, h2, h⟩
         exact .inr (.inr ⟨by simpa using h1, by simpa using h2, by simp [h3]⟩)
     · exact .inl (by simpa using h1)
end Go.Proofs.YtapilekangmcoaaGreatDoor
