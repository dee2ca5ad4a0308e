/- The walks of package deci: Compare, Add. -/
import Derived.Test.YtlmcjnekkhdmiaaDoorDeciC
set_option linter.unusedVariables false
set_option linter.unusedSimpArgs false
namespace Go.Proofs.YtlmcjnekkhdmiaaDoor
open Go.RowKit
attribute [local go_sem high] run_dec_eql run_dec_neq

def unitsS (n s : Int) : Int := n * p10 (6 - s).toNat
theorem units_bd {n s : Int} (h0 : -999999999999 ≤ n) (h1 : n ≤ 999999999999) : -1000000000000000000 ≤ unitsS n s ∧ unitsS n s ≤ 1000000000000000000 ∨ ¬ (0 ≤ s ∧ s ≤ 6) := by
  by_cases hs : 0 ≤ s ∧ s ≤ 6
  · left
    unfold unitsS
    have hp0 := p10_pos (6 - s).toNat
    have hp1 : p10 (6 - s).toNat ≤ 1000000 := p10_6 ▸ p10_mono (by omega)
    have a1 : n * p10 (6 - s).toNat ≤ 999999999999 * p10 (6 - s).toNat := Int.mul_le_mul_of_nonneg_right h1 (by omega)
    have a2 : -999999999999 * p10 (6 - s).toNat ≤ n * p10 (6 - s).toNat := Int.mul_le_mul_of_nonneg_right h0 (by omega)
    omega
  · exact .inr hs
def cmpD (n s n2 s2 : Int) : Int × Int := if soundS n s && soundS n2 s2 then (cmpS (unitsS n s) (unitsS n2 s2), 0) else (0, 2)
def addS (n s n2 s2 : Int) : Res := if soundS n s && soundS n2 s2 then decS 6 (mag (unitsS n s + unitsS n2 s2)) (decide (unitsS n s + unitsS n2 s2 < 0)) else ⟨0, 0, 2⟩

end Go.Proofs.YtlmcjnekkhdmiaaDoor
