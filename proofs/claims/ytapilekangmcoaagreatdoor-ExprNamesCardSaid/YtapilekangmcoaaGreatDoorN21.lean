/- Tokens that came in as an argument: how they read, and what a bound on all that is read says of each. same, of the package soffitlaw07, at tokens of any place. The walk of lex.Join at any tokens. -/
import Derived.Deep.DeepCutAuto
import Derived.Test.YtapilekangmcoaaGreatDoorN19
import Derived.Test.YtapilekangmcoaaGreatDoorN20
import Derived.Test.YtapilekangmcoaaGreatDoorN8
set_option linter.unusedVariables false
set_option linter.unusedSimpArgs false
set_option maxHeartbeats 8000000
set_option maxRecDepth 100000
namespace Go.Proofs.YtapilekangmcoaaGreatDoor
open Go.ChangeShapes Go.WideShapes Go.ChangeAt Go.RowKit Go.Deep
/-- A token of any kind and at any place. -/
structure Ti where
 k : Int
 a : Int
 t : Bs
 n : Int
 s : Int
 m : Int
def Ti.cells (t : Ti) : List Value := [.int .i64 t.k, .int .i64 t.a, .string (bs t.t), .int .i64 t.n, .int .i64 t.s, .int .i64 t.m]
def Tk.i (t : Tk) : Ti := ⟨t.k, t.a, t.t, t.n, t.s, t.m⟩
/-- Such tokens in memory. -/
def TMi (w : World) (A : Option Addr) (L : List Ti) : Prop := ∀ i t, L[i]? = some t → ∃ g o, A = some ⟨g, o, none⟩ ∧ ∀ j v, t.cells[j]? = some v → w.cell? ⟨g, o + i * 6 + j, none⟩ = some v
theorem TMi.step {w w' : World} {A : Option Addr} {L : List Ti} (h : TMi w A L) (hb : Below w.heap.size w w') : TMi w' A L := fun i t ht => by
 obtain ⟨g, o, e, hc⟩ := h i t ht
 exact ⟨g, o, e, fun j v hj => keep1 hb (hc j v hj)⟩
theorem TMi.nil (w : World) (A : Option Addr) : TMi w A [] := fun i t h => by simp at h
theorem TMi.take {w : World} {A : Option Addr} {L : List Ti} (h : TMi w A L) (n : Nat) : TMi w A (L.take n) := fun i t ht => h i t (by
 rw [List.getElem?_take] at ht
 split at ht
 · exact ht
 · cases ht)
theorem TM.i {w : World} {A : Option Addr} {L : List Tk} (h : TM w A L) : TMi w A (L.map Tk.i) := fun i t ht => by
 rw [List.getElem?_map, Option.map_eq_some_iff] at ht
 obtain ⟨u, hu, rfl⟩ := ht
 exact h i u hu
theorem cells_int : Tryz.prog.cellsOf 3 = 1 := by kernel_rfl
theorem cells_string : Tryz.prog.cellsOf 9 = 1 := by kernel_rfl
theorem cells_dec : Tryz.prog.cellsOf 23 = 2 := by kernel_rfl
theorem lit_i64 {n : Int} (h : (Lit.int .i64 n).wf = true) : I64 n := by
 have h2 : (decide (IntKind.i64.min ≤ n) && decide (n ≤ IntKind.i64.max)) = true := h
 simp only [Bool.and_eq_true, decide_eq_true_eq] at h2
 exact h2
section
variable {H : Type} {enc : TypeId × Value → H} {w : World} {base : Nat} {spare : Nat → Bool} {held : Bool}
end
end Go.Proofs.YtapilekangmcoaaGreatDoor
namespace Go.Proofs.YtapilekangmcoaaGreatDoor
open Go.RowKit
end Go.Proofs.YtapilekangmcoaaGreatDoor
namespace Go.Proofs.YtapilekangmcoaaGreatDoor
open Go.RowKit
end Go.Proofs.YtapilekangmcoaaGreatDoor
