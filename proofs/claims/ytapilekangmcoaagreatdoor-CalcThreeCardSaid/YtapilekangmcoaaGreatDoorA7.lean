/- The walks of sync.Once, done for the first time: its parts. (Type numbers of this seat: 293 is a pointer to internal/sync.Mutex.) The walk of strings.Replacer's build, for the two pairs that quoting asks. The walks of strings.NewReplacer and of Replacer.buildOnce, for the two pairs that quoting asks. -/
import Derived.Defers
import Derived.Laws.Pointers
import Derived.Laws.LoneSync
import Derived.RegionTactic
import Derived.RegionCalls
import Derived.Laws.Tables
import Derived.Lib.SliceRun
import Derived.Laws.MakeOwn
import Derived.Laws.IdiomStrings
import Derived.OwnWalk
import Derived.BigRegion
import Derived.Laws.CopyRow
import Derived.Laws.CopyOwn
import Derived.Test.YtapilekangmcoaaGreatDoorA1
import Derived.Test.YtapilekangmcoaaGreatDoorA5
set_option linter.unusedVariables false
set_option linter.unusedSimpArgs false
set_option maxHeartbeats 8000000
set_option maxRecDepth 100000
namespace Go.Proofs.YtapilekangmcoaaGreatDoor
open Go.RowKit
end Go.Proofs.YtapilekangmcoaaGreatDoor
namespace Go.Proofs.YtapilekangmcoaaGreatDoor
open Go.RowKit
/-- The cells of a byteStringReplacer: what stands for each byte, and which are replaced. -/
def RC (p q t : Value) : Array Value := (((Array.replicate 257 (Value.slice none 0 0)).setIfInBounds 34 p).setIfInBounds 92 q).setIfInBounds 256 t
section
variable {P : Program}
end
/-- A slice of bytes. -/
def ByS (w : World) (p : Value) (l : Bs) : Prop := ∃ g c, p = .slice (some ⟨g, 0, none⟩) l.length c ∧ ∀ i x, l[i]? = some x → w.cell? ⟨g, i, none⟩ = some (.int .u8 (x.toNat : Int))
theorem ByS.step {w w' : World} {p : Value} {l : Bs} (h : ByS w p l) (hb : RowKit.Below w.heap.size w w') : ByS w' p l := by
 obtain ⟨g, c, e, hc⟩ := h
 exact ⟨g, c, e, fun i x hx => keep1 hb (hc i x hx)⟩
/-- What build leaves. -/
def RB (w : World) (q : Nat) : Prop := ∃ (p r : Value) (gt ct : Nat), Blk w q 264 (RC p r (.slice (some ⟨gt, 0, none⟩) 2 ct)) ∧ ByS w p [92, 34] ∧ ByS w r [92, 92] ∧ SS w gt [[34], [92]]
theorem RB.step {w w' : World} {q : Nat} (h : RB w q) (hb : RowKit.Below w.heap.size w w') : RB w' q := by
 obtain ⟨p, r, gt, ct, h0, h1, h2, h3⟩ := h
 exact ⟨p, r, gt, ct, h0.step hb, h1.step hb, h2.step hb, h3.step hb⟩
end Go.Proofs.YtapilekangmcoaaGreatDoor
namespace Go.Proofs.YtapilekangmcoaaGreatDoor
open Go.RowKit
/-- The cells of a Replacer. -/
def RPC (d m : Int) (r o : Value) : Array Value := #[.int .u32 d, .int .i32 m, .int .u32 0, r, o]
theorem ByS.far {w : World} {b : Nat} {d m : Int} {r o : Value} {p : Value} {x : UInt8} {l : Bs} (h : ByS w p (x :: l)) (hb : Blk w b 211 (RPC d m r o)) (i : Nat) (u : Value) : ByS (w.setCell ⟨b, i, none⟩ u) p (x :: l) := by
 obtain ⟨g, c, rfl, hc⟩ := h
 have n : g ≠ b := by
   rintro rfl
   have h := hc 0 _ rfl
   rw [hb.cell 0] at h
   simp [RPC] at h
 exact ⟨g, c, rfl, fun j y hy => by rw [World.cell?_setCell_other _ _ _ _ (by simp [n])]; exact hc j y hy⟩
theorem RB.far {w : World} {b q : Nat} {d m : Int} {r o : Value} (h : RB w q) (hb : Blk w b 211 (RPC d m r o)) (i : Nat) (u : Value) : RB (w.setCell ⟨b, i, none⟩ u) q := by
 obtain ⟨p, r', gt, ct, h0, h1, h2, h3⟩ := h
 have n1 : q ≠ b := by
   rintro rfl
   have h := Option.some.inj (h0.symm.trans hb)
   injection h with e1 e2
   exact absurd e2 (by decide)
 have n2 : gt ≠ b := by
   rintro rfl
   have h := h3 0 _ rfl
   rw [hb.cell 0] at h
   simp [RPC] at h
 exact ⟨p, r', gt, ct, h0.far (p := ⟨b, i, none⟩) n1 u, h1.far hb i u, h2.far hb i u, fun j l hl => by rw [World.cell?_setCell_other _ _ _ _ (by simp [n2])]; exact h3 j l hl⟩
end Go.Proofs.YtapilekangmcoaaGreatDoor
