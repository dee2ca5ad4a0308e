/- For every value (api.Value) the law LogicTwice of package soffitlaw10 answers true: no condition of ours. -/
import Derived.Test.YtkppkppbdhcpnaaLogicE
import Derived.Test.YtkppkppbdhcpnaaOpenVal
namespace Go.Proofs.Ytkppkppbdhcpnaa.lawTwice
open Go.ChangeShapes Go.WideShapes Go.ChangeAt Go.RowKit

theorem walk (a : Val) (w : World) : Calls Try.prog 6 #[.agg #[.int .i64 a.k, .int .i64 a.n, .int .i64 a.s, .string a.t, .int .i64 a.m]] w fun e w' => e = .returned (.bool true) ∧ Below w.heap.size w w' := by
  rcases ways a with rfl | rfl | ⟨h1, h2⟩
  · refine twice_core (tv true) w true false false (veq_tv true true) (veq_tv true false) (fun _ => ?_) ?_ (fun _ => rfl) (fun h => by cases h)
    · show veq (notS (notS (tv true))) (tv true) = true
      rw [not_true, not_false', veq_self]
    · show veq (notS (tv true)) (tv true) = false
      rw [not_true, veq_tv]; rfl
  · refine twice_core (tv false) w false true true (veq_tv false true) (veq_tv false false) (fun _ => ?_) ?_ (fun _ => rfl) (fun h => by cases h)
    · show veq (notS (notS (tv false))) (tv false) = true
      rw [not_false', not_true, veq_self]
    · show veq (notS (tv false)) (tv true) = true
      rw [not_false', veq_self]
  · refine twice_core a w false false false h1 h2 (fun h => by cases h) ?_ (fun h => by cases h) (fun _ => ?_)
    · show veq (notS a) (tv true) = false
      rw [not_else h1 h2, veq_nul]
    · show veq (notS (notS a)) nul = true
      rw [not_else h1 h2, not_nul, veq_self]

set_option maxRecDepth 100000 in
theorem lifted (os : Os) (started : os.Started) (H : Type) (enc : TypeId × Value → H) :
    ReturnsInHanded {} Try.checked os 6 .any (Rows.logicTwiceSpec.pre6 enc Try.prog Try.f6 Rows.logicTwiceRow.domain false) (Rows.logicTwiceSpec.post enc Try.prog Try.f6 false true false false) := by
  refine returnsInHanded_of_change (C := Try.checked) own started (by kernel_rfl) Try.func6
    (ChangeSpec.witness6 (enc := enc) (C := Try.checked) false ⟨#[], #[.agg #[.int .i64 0, .int .i64 0, .int .i64 0, .string ⟨#[]⟩, .int .i64 0]], []⟩ 8 (by kernel_rfl) (by kernel_rfl) (by kernel_rfl) (by kernel_rfl)) ?_
  intro W base args ds gs before hval0 hW hcnd _
  have hval : ∀ (j : Nat) t v, Try.f6.params[j]? = some t → args[j]? = some v → Value.okWide Try.prog W .any base t v := hval0
  have hW' := hW
  obtain ⟨p, q, hA0, hV, rfl, hfz, hnd⟩ := hW
  have hA : DataW.TrodAll enc Try.prog W 0 (fun _ => true) true Try.f6.params.toList args.toList ds p := hA0
  rw [Try.params6] at hA hval
  obtain ⟨v0, vs0, d0, ds0, p0, q0, hargs, rfl, rfl, h0, r0⟩ := trodAll_cons hA
  obtain ⟨rfl, rfl, rfl⟩ := trodAll_nil r0
  obtain rfl : args = #[v0] := by cases args; simp_all
  obtain ⟨rfl, rfl⟩ := trodVars_none hV
  obtain ⟨a, rfl, _⟩ := open_val (hval 0 27 v0 rfl rfl) h0
  refine (walk a W).mono fun e W' ⟨he, hb⟩ => ?_
  subst he
  exact ⟨_, rfl, law_post (tb := 4) laidOut (by kernel_rfl) (by kernel_rfl) Try.underlying4 rfl rfl hW' hb⟩

theorem proved : Rows.LogicTwiceSaid :=
  OpenClaim.holds_of_wide 6 Try.f6 rfl rfl rfl rfl rfl rfl rfl ⟨rfl, rfl, rfl, rfl, rfl⟩ rfl rfl rfl rfl rfl (by kernel_rfl) Try.func6 (by kernel_rfl)
    (of_decide_eq_true (by kernel_rfl)) (by unfold Func.isWrapper; first | (rw [if_pos (by decide +kernel)]; kernel_rfl) | (rw [if_neg (by decide +kernel)]; exact ⟨rfl, rfl⟩))
    (fun os started H enc _ => lifted os started H enc)
#print axioms proved
end Go.Proofs.Ytkppkppbdhcpnaa.lawTwice
