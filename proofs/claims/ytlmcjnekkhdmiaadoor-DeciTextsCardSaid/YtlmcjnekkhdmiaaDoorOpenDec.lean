/- How arguments that hold numbers (api.Dec) read: opened to their cells. -/
import Derived.Test.YtlmcjnekkhdmiaaDoorLaid
set_option linter.unusedVariables false
set_option linter.unusedSimpArgs false
namespace Go.Proofs.YtlmcjnekkhdmiaaDoor
open Go.ChangeShapes Go.WideShapes Go.ChangeAt Go.RowKit Go.Deep

theorem cells_int : Tryd.prog.cellsOf 3 = 1 := by kernel_rfl
theorem cells_dec : Tryd.prog.cellsOf 23 = 2 := by kernel_rfl

section
variable {H : Type} {enc : TypeId × Value → H} {w : World} {base : Nat} {spare : Nat → Bool} {held : Bool}

set_option maxRecDepth 100000 in
theorem dec_shape {fuel : Nat} {cs : List Value} {x : DataW H × List MemPlace} (h : DataW.trod enc Tryd.prog w base spare held fuel 23 cs = some x) : ∃ n s : Int, cs = [.int .i64 n, .int .i64 s] ∧ I64 n ∧ I64 s := by
  obtain ⟨xs, n, _, _, hl, hxl, hf⟩ := DataW.trod_struct Tryd.underlying23 h
  rw [cells_dec] at hl
  match cs, hl with
  | [c0, c1], _ =>
    match xs, hxl with
    | [y0, y1], _ =>
      have h0 := hf 0 _ rfl
      have h1 := hf 1 _ rfl
      simp only [cells_int, List.drop_zero, List.drop_succ_cons, List.take_succ_cons, List.take_zero, List.getElem?_cons_zero, List.getElem?_cons_succ] at h0 h1
      obtain ⟨a, e4, _, wa⟩ := DataW.trod_int Tryd.underlying3 h0
      obtain ⟨b, e5, _, wb⟩ := DataW.trod_int Tryd.underlying3 h1
      cases e4; cases e5
      exact ⟨a, b, rfl, i64_of_wf wa, i64_of_wf wb⟩

set_option maxRecDepth 100000 in
/-- An argument that is a number. -/
theorem open_dec {r : Reach} {b0 : Nat} {v : Value} {d : DataW H} {p : List MemPlace} (hv : Value.okWide Tryd.prog w r b0 23 v) (h : DataW.Trod enc Tryd.prog w base spare held 23 v d p) :
    ∃ n s : Int, v = .agg #[.int .i64 n, .int .i64 s] ∧ I64 n ∧ I64 s := by
  obtain ⟨cs, rfl, hsz⟩ := okWide_struct Tryd.underlying23 hv
  obtain ⟨fuel, hf⟩ := h
  obtain ⟨a, b, ha, wa, wb⟩ := dec_shape hf
  refine ⟨a, b, ?_, wa, wb⟩
  congr 1
  apply Array.toList_inj.1
  simpa [Value.cells] using ha
end
end Go.Proofs.YtlmcjnekkhdmiaaDoor
