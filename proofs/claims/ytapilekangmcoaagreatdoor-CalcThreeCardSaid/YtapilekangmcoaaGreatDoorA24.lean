/- The walks of value.Compare and of what it asks. -/
import Derived.Laws.Cover1
import Derived.Test.YtapilekangmcoaaGreatDoorA23
import Derived.Test.YtapilekangmcoaaGreatDoorA22
set_option linter.unusedVariables false
set_option linter.unusedSimpArgs false
set_option maxHeartbeats 8000000
set_option maxRecDepth 100000
namespace Go.Proofs.YtapilekangmcoaaGreatDoor
open Go.RowKit
theorem sd_any (v : Vl) (hv : VOk v) (m : Int) (w : World) (hw : OKW m w) : Calls Tryz.prog 32 #[.agg (cellsV v)] w fun e w' => e = .returned (.bool (sd v)) ∧ Below w.heap.size w w' := vsd_any v hv m w hw
theorem bl_eq : ∀ (x y : List UInt8), Op.bytesLess x y = decide (x < y)
 | [], [] => by simp [Op.bytesLess]
 | _ :: _, [] => by simp [Op.bytesLess]
 | [], _ :: _ => by simp [Op.bytesLess]
 | a :: x, b :: y => by
   rw [Op.bytesLess, bl_eq x y, Bool.eq_iff_iff]
   simp [List.cons_lt_cons_iff]
/-- How two texts stand, as the walk asks. -/
theorem cmpt_walk (q r : ByteArray) (a b : Bs) (hq : q.toList = a) (hr : r.toList = b) (w : World) : Calls Tryz.prog 111 #[.string q, .string r] w fun e w' => e = .returned (.int .i64 (cmpT a b)) ∧ w = w' := by
 obtain ⟨x, hx⟩ : ∃ x, cmpT a b = x := ⟨_, rfl⟩
 rw [hx]
 have HX := Lib.hid hx
 clear hx
 have e1 := bl_eq q.toList r.toList
 rw [hq, hr] at e1
 by_cases h1 : a < b
 · have f1 : Op.bytesLess q.toList r.toList = true := by rw [hq, hr, e1]; exact decide_eq_true h1
   obtain rfl : -1 = x := by rw [← HX.out]; unfold cmpT; rw [if_pos h1]
   clear HX hq hr e1 h1
   go_enter Tryz.func111, Tryz.ntmps111
   go_wp2
   go_ret
   exact ⟨rfl, rfl⟩
 · have f1 : Op.bytesLess q.toList r.toList = false := by rw [hq, hr, e1]; exact decide_eq_false h1
   by_cases h2 : b < a
   · have f2 : (q.toList == r.toList) = false := by
       rw [hq, hr]
       simp only [beq_eq_false_iff_ne]
       intro e
       rw [e] at h2
       exact List.lt_irrefl _ h2
     obtain rfl : 1 = x := by rw [← HX.out]; unfold cmpT; rw [if_neg h1, if_pos h2]
     clear HX hq hr e1 h1 h2
     go_enter Tryz.func111, Tryz.ntmps111
     go_wp2
     go_ret
     exact ⟨rfl, rfl⟩
   · have hab : a = b := List.le_antisymm (List.not_lt.1 h2) (List.not_lt.1 h1)
     have f2 : (q.toList == r.toList) = true := by
       rw [hq, hr, hab]
       simp
     obtain rfl : 0 = x := by rw [← HX.out]; unfold cmpT; rw [if_neg h1, if_neg h2]
     clear HX hq hr e1 h1 h2 hab
     go_enter Tryz.func111, Tryz.ntmps111
     go_wp2
     go_ret
     exact ⟨rfl, rfl⟩
theorem or_walk (g c : Nat) (T : TypeId) (x y : Int) (w : World) (h : Blk w g T #[.int .i64 x, .int .i64 y]) : Calls Tryz.prog 110 #[.slice (some ⟨g, 0, none⟩) 2 c] w fun e w' => e = .returned (.int .i64 (if x = 0 then y else x)) ∧ Below w.heap.size w w' := by
 obtain ⟨z, hz⟩ : ∃ z, (if x = 0 then y else x) = z := ⟨_, rfl⟩
 rw [hz]
 have HZ := Lib.hid hz
 clear hz
 have hlu := h.lt; have hllu := lts hlu; have qu0 := h.cell 0; have qu1 := h.cell 1; simp at qu0 qu1; have zu0 := h.frozen 0; have zu1 := h.frozen 1; have Hh := Lib.hid h; clear h
 go_enter Tryz.func110, Tryz.ntmps110
 go_wp2_with fail
 go_loopw [8] (fun i wr => ∃ k : Nat, k ≤ 2 ∧ i = .int .i64 (k : Int) ∧ wr = w ∧ Hid ((1 ≤ k → x = 0) ∧ (2 ≤ k → y = 0))) (fun i _ => 2 - (intOf i).toNat)
 case atStart => exact ⟨0, by omega, rfl, rfl, Lib.hid ⟨by omega, by omega⟩⟩
 case round =>
   obtain ⟨k, hk, rfl, rfl, HQ⟩ := hrel
   match k, hk with
   | 0, _ =>
     by_cases hx : x = 0
     · subst hx
       go_wp2_with fail
       go_roundw
       case rel => exact ⟨1, by omega, by go_num, by simp, Lib.hid ⟨fun _ => by simp, by omega⟩⟩
       case measure => simp [intOf]
     · have hxb : (x != 0) = true := by simpa using hx
       have hzx : z = x := by rw [← HZ.out, if_neg hx]
       subst hzx
       clear hx
       go_wp2_with fail
       go_returns
       exact ⟨rfl, Below.refl _ _⟩
   | 1, _ =>
     have hx := HQ.out.1 (by decide)
     subst hx
     by_cases hy : y = 0
     · subst hy
       go_wp2_with fail
       go_roundw
       case rel => exact ⟨2, by omega, by go_num, by simp, Lib.hid ⟨fun _ => by simp, fun _ => by simp⟩⟩
       case measure => simp [intOf]
     · have hyb : (y != 0) = true := by simpa using hy
       have hzy : z = y := by rw [← HZ.out, if_pos rfl]
       subst hzy
       clear hy
       go_wp2_with fail
       go_returns
       exact ⟨rfl, Below.refl _ _⟩
   | 2, _ =>
     have hx := HQ.out.1 (by decide)
     have hy := HQ.out.2 (by decide)
     subst hx hy
     have hz0 : z = 0 := by rw [← HZ.out, if_pos rfl]
     subst hz0
     go_wp2_with fail
     go_returns
     exact ⟨rfl, Below.refl _ _⟩
end Go.Proofs.YtapilekangmcoaaGreatDoor
