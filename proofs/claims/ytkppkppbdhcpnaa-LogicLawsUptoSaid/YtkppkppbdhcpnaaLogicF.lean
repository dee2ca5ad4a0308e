/- Plain laws of three-valued logic: for LogicLaws. -/
import Derived.Test.YtkppkppbdhcpnaaLogicE
namespace Go.Proofs.Ytkppkppbdhcpnaa
open Go.RowKit

theorem allS_nf (want : Bool) (vs : List Val) : allS want (tv want) vs = if vs.any (fun v => veq v (tv !want)) then tv !want else if vs.all (fun v => veq v (tv want)) then tv want else nul := allS_eq want vs _ (.inl rfl)

theorem veq_not (v : Val) (b : Bool) : veq (notS v) (tv b) = veq v (tv !b) := by
  rcases ways v with rfl | rfl | ⟨h1, h2⟩
  · rw [not_true, veq_tv, veq_tv]; cases b <;> rfl
  · rw [not_false', veq_tv, veq_tv]; cases b <;> rfl
  · rw [not_else h1 h2, veq_nul]
    cases b
    · exact h1.symm
    · exact h2.symm

theorem not_and (vs : List Val) : notS (allS true (tv true) vs) = allS false (tv false) (vs.map notS) := by
  rw [allS_nf, allS_nf]
  simp only [List.any_map, List.all_map, Function.comp_def, veq_not, Bool.not_false, Bool.not_true]
  split
  · exact not_false'
  · split
    · exact not_true
    · exact not_nul

theorem all_reverse (want : Bool) (vs : List Val) : allS want (tv want) vs.reverse = allS want (tv want) vs := by
  rw [allS_nf, allS_nf, List.any_reverse, List.all_reverse]

theorem veq_allS (want b : Bool) (vs : List Val) : veq (allS want (tv want) vs) (tv b) = if b = want then (!vs.any (fun v => veq v (tv !want)) && vs.all (fun v => veq v (tv want))) else vs.any (fun v => veq v (tv !want)) := by
  rw [allS_nf]
  by_cases h1 : vs.any (fun v => veq v (tv !want)) = true
  · rw [if_pos h1, veq_tv, h1]
    cases want <;> cases b <;> rfl
  · rw [if_neg h1]
    replace h1 : vs.any (fun v => veq v (tv !want)) = false := by simpa using h1
    by_cases h2 : vs.all (fun v => veq v (tv want)) = true
    · rw [if_pos h2, veq_tv, h1, h2]
      cases want <;> cases b <;> rfl
    · rw [if_neg h2, veq_nul, h1]
      replace h2 : vs.all (fun v => veq v (tv want)) = false := by simpa using h2
      rw [h2]
      cases want <;> cases b <;> rfl

theorem any_all_not (want : Bool) (vs : List Val) (h : vs.all (fun v => veq v (tv want)) = true) : vs.any (fun v => veq v (tv !want)) = false := by
  rw [List.any_eq_false]
  intro v hv
  have := List.all_eq_true.1 h v hv
  rw [veq_iff.1 this, veq_tv]
  cases want <;> simp

theorem all_append (want : Bool) (a b : List Val) : allS want (tv want) (a ++ b) = allS want (tv want) [allS want (tv want) a, allS want (tv want) b] := by
  rw [allS_nf want (a ++ b), allS_nf want [_, _]]
  simp only [List.any_append, List.all_append, List.any_cons, List.any_nil, List.all_cons, List.all_nil, Bool.or_false, Bool.and_true, veq_allS]
  have ha := any_all_not want a
  have hb := any_all_not want b
  generalize a.any (fun v => veq v (tv !want)) = x at *
  generalize b.any (fun v => veq v (tv !want)) = y at *
  generalize a.all (fun v => veq v (tv want)) = p at *
  generalize b.all (fun v => veq v (tv want)) = q at *
  cases want <;> cases x <;> cases y <;> cases p <;> cases q <;> simp_all
end Go.Proofs.Ytkppkppbdhcpnaa
