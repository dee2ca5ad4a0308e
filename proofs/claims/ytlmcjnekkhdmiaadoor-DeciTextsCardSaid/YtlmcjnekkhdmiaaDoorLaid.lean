/- What the rows' lists of package-level variables give to the walks. -/
import Derived.Test.YtlmcjnekkhdmiaaDoorAwake
import Derived.Test.YtlmcjnekkhdmiaaDoorCards
import Derived.Test.YtlmcjnekkhdmiaaDoorTie
import Derived.LaidSub
import Derived.LaidMore
import Derived.Lay
import Derived.SevenTiedAt
import Derived.Stop.Joined
import Derived.Deep.DeepHandedRow
import Derived.Lib.LaidTab
set_option linter.unusedVariables false
set_option linter.unusedSimpArgs false
namespace Go.Proofs.YtlmcjnekkhdmiaaDoor
open Go.ChangeShapes Go.WideShapes Go.ChangeAt Go.RowKit

theorem keepTab {W : World} {l : List (String × DataW Unit)} (h : laidMetH Tryd.prog l W)
    (e : (l.filter fun x => x.1 == "internal/strconv.uint64pow10") = [("internal/strconv.uint64pow10", Lib.tabData .u64 Lib.pow10Tab)]) :
    Lib.TabIs Tryd.prog W "internal/strconv.uint64pow10" .u64 Lib.pow10Tab := by
  have h2 := h.filter (fun x => x.1 == "internal/strconv.uint64pow10")
  rw [e] at h2
  exact Lib.tabIs_of_head (g := 0) (rest := []) (by kernel_rfl) (t := 106) (by kernel_rfl) Tryd.underlying106 Tryd.underlying33 (by kernel_rfl) (by kernel_rfl) h2

theorem maxLenCell {W : World} (h : W.ShapedOpen Tryd.prog) : ∃ m, W.cell? ⟨1, 0, none⟩ = some (.int .i64 m) ∧ 1 < W.heap.size := by
  obtain ⟨m, hm⟩ := Tryd.laysM219.s1_3 W h
  refine ⟨m, hm, ?_⟩
  apply Nat.lt_of_not_le
  intro hle
  have hm' : W.cell? ⟨1, 0, none⟩ = some (.int .i64 m) := hm
  simp [World.cell?, Array.getElem?_eq_none hle] at hm'

theorem i64_of_wf {x : Int} (h : (Lit.int .i64 x).wf = true) : I64 x := by
  have h2 : (decide (IntKind.i64.min ≤ x) && decide (x ≤ IntKind.i64.max)) = true := h
  simp only [Bool.and_eq_true, decide_eq_true_eq] at h2
  exact h2
end Go.Proofs.YtlmcjnekkhdmiaaDoor
