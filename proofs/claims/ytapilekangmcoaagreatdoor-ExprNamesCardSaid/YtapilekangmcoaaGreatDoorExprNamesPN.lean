/- For every expression and name the law ExprNames of package soffitlaw08 answers true. -/
import Derived.Test.YtapilekangmcoaaGreatDoorN37
import Derived.Test.YtapilekangmcoaaGreatDoorN39
import Derived.Test.YtapilekangmcoaaGreatDoorN27
import Derived.Test.YtapilekangmcoaaGreatDoorN40
set_option linter.unusedVariables false
set_option linter.unusedSimpArgs false
set_option maxHeartbeats 8000000
set_option maxRecDepth 100000
namespace Go.Proofs.YtapilekangmcoaaGreatDoor
theorem eok_ev {x : Ex} (h : EOk x) : EV x := by
 induction h with
 | mk o v s kids _ _ hv _ _ _ _ ih => exact .mk o v s kids hv ih
end Go.Proofs.YtapilekangmcoaaGreatDoor
namespace Go.Proofs.YtapilekangmcoaaGreatDoor.lawENames
open Go.ChangeShapes Go.WideShapes Go.ChangeAt Go.RowKit
theorem hTA : Hid ETextAny := Lib.hid fun x cs m w h hx hv => etext_any x cs m w h hx hv
theorem table {W : World} (h : laidMetH Tryz.prog Rows.exprNamesRow.laid W) : Lib.TabIs Tryz.prog W "internal/strconv.uint64pow10" .u64 Lib.pow10Tab := keepTab h (by kernel_rfl)
theorem u8 {W : World} (h : laidMetH Tryz.prog Rows.exprNamesRow.laid W) : U8T W := keepU8 h (by kernel_rfl) (by kernel_rfl)
noncomputable def laidWorld (os : Os) : World := World.laidAll Tryz.prog os Rows.exprNamesRow.laid
theorem laid_met (os : Os) : laidMet Tryz.prog Rows.exprNamesRow.laid ((laidWorld os).forCall (fun _ _ => 0) ⟨#[], #[.agg #[.int .i64 0, .int .i64 0, .int .i64 0, .int .i64 0, .string ⟨#[]⟩, .int .i64 0, .string ⟨#[]⟩, .slice none 0 0], .string ⟨#[]⟩], []⟩).memory := laidMet_laidAll _ (by kernel_rfl) (by kernel_rfl)
theorem reads (os : Os) {H : Type} (enc : TypeId × Value → H) : ∃ places, DataW.whole enc Tryz.prog ((laidWorld os).forCall (fun _ _ => 0) ⟨#[], #[.agg #[.int .i64 0, .int .i64 0, .int .i64 0, .int .i64 0, .string ⟨#[]⟩, .int .i64 0, .string ⟨#[]⟩, .slice none 0 0], .string ⟨#[]⟩], []⟩).memory Tryz.f4.params.toList Rows.exprNamesSpec.vars false #[.agg #[.int .i64 0, .int .i64 0, .int .i64 0, .int .i64 0, .string ⟨#[]⟩, .int .i64 0, .string ⟨#[]⟩, .slice none 0 0], .string ⟨#[]⟩].toList 8 = some ([.agg [.lit (.int .i64 0), .agg [.lit (.int .i64 0), .agg [.lit (.int .i64 0), .lit (.int .i64 0)], .lit (.string []), .lit (.int .i64 0)], .lit (.string []), .nil], .lit (.string [])], [], places) :=
 ⟨[], by kernel_rfl⟩
theorem lifted (os : Os) (started : os.Started) (H : Type) (enc : TypeId × Value → H) (F : Stop.Interp) :
   ReturnsInHanded {} Tryz.checked os 4 .any ((OpenSpec.ofChange Rows.exprNamesSpec).preRow enc Tryz.prog Tryz.f4 Rows.exprNamesRow.domain false Rows.exprNamesRow.laid) (((OpenSpec.ofChange Rows.exprNamesSpec).at F).post enc Tryz.prog Tryz.f4 false true false false) := by
 obtain ⟨places, hx⟩ := reads os enc
 refine returnsInHanded_of_row (C := Tryz.checked) (s := (OpenSpec.ofChange Rows.exprNamesSpec)) own started (by kernel_rfl) Tryz.func4
   (witness_row_at (enc := enc) (C := Tryz.checked) false (laidWorld os) #[.agg #[.int .i64 0, .int .i64 0, .int .i64 0, .int .i64 0, .string ⟨#[]⟩, .int .i64 0, .string ⟨#[]⟩, .slice none 0 0], .string ⟨#[]⟩] rfl (by kernel_rfl) (by kernel_rfl) (by kernel_rfl)
     (OpenSpec.preRow_of_cond 8 hx (by kernel_rfl) (fun k hk => by cases hk) (by kernel_rfl) (laid_met os))) ?_
 intro W base args ds gs before hval0 hW _ hk hwt hL hsh _
 have hval : ∀ (j : Nat) t v, Tryz.f4.params[j]? = some t → args[j]? = some v → Value.okWide Tryz.prog W .any base t v := hval0
 have hW' := hW
 obtain ⟨p, q, hA0, hV, rfl, hfz, hnd⟩ := hW
 have hA : DataW.TrodAll enc Tryz.prog W 0 (fun _ => true) true Tryz.f4.params.toList args.toList ds p := hA0
 rw [Tryz.params4] at hA hval
 obtain ⟨v0, vs0, d0, ds0, p0, q0, hargs, rfl, rfl, h0, r0⟩ := trodAll_cons hA
 obtain ⟨v1, vs1, d1, ds1, p1, q1, rfl, rfl, rfl, h1, r1⟩ := trodAll_cons r0
 obtain ⟨rfl, rfl, rfl⟩ := trodAll_nil r1
 obtain rfl : args = #[v0, v1] := by cases args; simp_all
 obtain ⟨rfl, rfl⟩ := trodVars_none hV
 have htab := table hL
 obtain ⟨m, hm, hlt⟩ := maxLenCell hsh
 obtain ⟨x, cs, rfl, hx, hok⟩ := open_expr (hval 0 33 v0 rfl rfl) h0
 obtain ⟨s, rfl, rfl, rfl, hs⟩ := Go.ChangeMaps.open_string Tryz.underlying9 (hval 1 9 v1 rfl rfl) h1
 simp only [List.append_nil] at hW'
 refine (en_any hTA x s.data.toList cs m W ⟨hm, hlt, u8 hL, htab⟩ hx (eok_ev hok)).mono fun e W' ⟨he, hb⟩ => ?_
 subst he
 exact ⟨_, rfl, law_post (tb := 4) laidOut (by kernel_rfl) (by kernel_rfl) Tryz.underlying4 rfl rfl hW' hb⟩
theorem closed : joinedFacts Tryz.pinned.checked.prog 4 Tryz.f4 (OpenSpec.ofChange Rows.exprNamesSpec).bare Rows.exprNamesRow = true := by
 simp only [joinedFacts, Bool.and_eq_true]
 (repeat' apply And.intro)
 all_goals (as_aux_lemma => kernel_rfl)
theorem said : Rows.ExprNamesSaid :=
 OpenClaim.holds_of_cond 4 Tryz.f4 rfl rfl rfl rfl rfl rfl rfl ⟨rfl, rfl, rfl, rfl, rfl⟩ rfl rfl rfl rfl rfl (by kernel_rfl) Tryz.func4 closed
   (of_decide_eq_true (by kernel_rfl)) (by unfold Func.isWrapper; first | (rw [if_pos (by decide +kernel)]; kernel_rfl) | (rw [if_neg (by decide +kernel)]; exact ⟨rfl, rfl⟩))
   (fun os started H enc _ F => by rw [OpenClaim.pre_eq_preRow]; exact lifted os started H enc F)
theorem plain (f : FuncId) (fn : Func) (hf : Tryz.pinned.checked.prog.funcNamed "soffit/soffitlaw08.ExprNames" = some f) (hfn : Tryz.pinned.checked.prog.funcs[f]? = some fn) :
   true = Tryz.pinned.checked.prog.looks [] ∧ ∀ (j : Nat) t, fn.params[j]? = some t → Tryz.pinned.checked.prog.wantsStandIn t = false := by
 obtain rfl : f = 4 := Option.some.inj ((show Tryz.prog.funcNamed "soffit/soffitlaw08.ExprNames" = some 4 by kernel_rfl).symm.trans hf) |>.symm
 obtain rfl : fn = Tryz.f4 := (Option.some.inj (Tryz.func4.symm.trans hfn)).symm
 refine ⟨by kernel_rfl, fun j t ht => ?_⟩
 rw [Tryz.params4] at ht
 have hm := Array.mem_of_getElem? ht
 have hall : (Tryz.f4.params.all fun u => !Tryz.prog.wantsStandIn u) = true := by kernel_rfl
 rw [Tryz.params4, Array.all_eq_true'] at hall
 have h := hall t hm
 have h3 : Tryz.prog.wantsStandIn t = false := by simpa using h
 exact h3
theorem proved : Rows.ExprNamesCardSaid :=
 Claim7.holds_tied_plain_at .later [] _ _ _ _ said (fun _ h => by cases h) (by kernel_rfl) (fun _ h => by cases h) exprNames_row_tie rfl ⟨rfl, rfl⟩ (by kernel_rfl) rfl plain (by kernel_rfl)
#print axioms proved
end Go.Proofs.YtapilekangmcoaaGreatDoor.lawENames
