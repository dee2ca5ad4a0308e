/- What the laws of calc ask besides: a row of bindings, a text that is read, and the reference's Truth and Sound. -/
import Derived.Test.YtapilekangmcoaaGreatDoorA39
import Derived.Test.YtapilekangmcoaaGreatDoorA43
set_option linter.unusedVariables false
set_option linter.unusedSimpArgs false
set_option maxHeartbeats 8000000
set_option maxRecDepth 100000
namespace Go.Proofs.YtapilekangmcoaaGreatDoor
open Go.RowKit Go.Shelf
theorem rmb_row {w : World} {g : Nat} {T : TypeId} {cs : Array Value} {L : List (Bs × Vl)} (h : Blk w g T cs) (he : cs.toList = rowL clB L) : RM clB 6 w (some ⟨g, 0, none⟩) L := fun i t ht => ⟨g, 0, rfl, fun j v hj => by
 rw [Nat.zero_add, h.cell (i * 6 + j), ← Array.getElem?_toList, he]
 exact rowL_get clB_len L i t j v ht hj⟩
theorem name_ev (c : UInt8) : EV (akN c) := .mk 2 zeroV [c] [] zero_vok (by simp)
/-- What reading a text that is written as it is read comes to. -/
theorem closed_walk (m : Int) (w : World) (hw : OKW m w) {x : Ex} {t : Bs} (hx : ES wordB x) (hd : dep x ≤ 64) (hc : cnt x ≤ 4096) (ht : etxt x = t) (hl : t.length ≤ 65536) (W : World) (hW : Below w.heap.size w W) :
   Calls Tryz.prog 9 #[.string (bs t)] W fun e w' => (∃ cs, e = .returned (.tuple #[.agg cs, .int .i64 0, .int .i64 0]) ∧ XM (fun _ => True) w' x cs) ∧ Below W.heap.size W w' := by
 have h := eparse_any m (bs t) W (hw.step hW) 600000 (Nat.le_refl _)
 rw [show (bs t).data.toList = t from rfl, closed_parse m W (hw.step hW) hx hd hc ht hl] at h
 refine h.mono ?_
 rintro e w' ⟨⟨cs, rfl, hxm⟩, hb⟩
 exact ⟨⟨cs, rfl, hxm.mono fun _ _ _ => trivial⟩, hb⟩
theorem rtruth_vl (b : Bool) (w : World) : Calls Tryz.prog 21 #[.bool b] w fun e w' => e = .returned (.agg (cellsV (truV b))) ∧ Below w.heap.size w w' := by
 refine (Logic.rtruth_any b w).mono ?_
 rintro e w' ⟨rfl, c1, rfl⟩
 exact ⟨by cases b <;> rfl, by (repeat' first | (with_reducible first | exact .refl _ _ | assumption | apply balloc | apply Below.drew | apply bset | refine bstep ?_ ‹_› | refine bturn ?_ ‹_› ?_) | go_size)⟩
theorem r4_sd (v : Vl) (hv : VOk v) (w : World) : Calls Tryz.prog 22 #[.agg (cellsV v)] w fun e w' => e = .returned (.bool (sd v)) ∧ Below w.heap.size w w' := r4_any v hv w
end Go.Proofs.YtapilekangmcoaaGreatDoor
