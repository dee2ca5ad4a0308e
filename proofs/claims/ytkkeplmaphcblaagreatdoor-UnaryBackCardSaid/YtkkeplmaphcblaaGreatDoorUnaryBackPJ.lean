/- For all tests of a cell (api.Tests) the law UnaryBack of package soffitlaw09 answers true. -/
import Derived.Test.YtkkeplmaphcblaaGreatDoorJ31
import Derived.Test.YtkkeplmaphcblaaGreatDoorJ32
import Derived.Test.YtkkeplmaphcblaaGreatDoorJ33
import Derived.Test.YtkkeplmaphcblaaGreatDoorJ26
namespace Go.Proofs.YtkkeplmaphcblaaGreatDoor.lawUBack
open Go.ChangeShapes Go.WideShapes Go.ChangeAt Go.RowKit

theorem hTA : Hid TestAny := Lib.hid fun b A c p w h hok => test_any b A c p w h hok
theorem table {W : World} (h : laidMetH Tryz.prog Rows.unaryBackRow.laid W) : Lib.TabIs Tryz.prog W "internal/strconv.uint64pow10" .u64 Lib.pow10Tab := keepTab h (by kernel_rfl)
theorem u8 {W : World} (h : laidMetH Tryz.prog Rows.unaryBackRow.laid W) : U8T W := keepU8 h (by kernel_rfl) (by kernel_rfl)

noncomputable def laidWorld (os : Os) : World := World.laidAll Tryz.prog os Rows.unaryBackRow.laid
theorem laid_met (os : Os) : laidMet Tryz.prog Rows.unaryBackRow.laid ((laidWorld os).forCall (fun _ _ => 0) ⟨#[], #[.agg #[.bool false, .bool false, .slice none 0 0]], []⟩).memory := laidMet_laidAll _ (by kernel_rfl) (by kernel_rfl)
theorem reads (os : Os) {H : Type} (enc : TypeId × Value → H) : ∃ places, DataW.whole enc Tryz.prog ((laidWorld os).forCall (fun _ _ => 0) ⟨#[], #[.agg #[.bool false, .bool false, .slice none 0 0]], []⟩).memory Tryz.f5.params.toList Rows.unaryBackSpec.vars false #[.agg #[.bool false, .bool false, .slice none 0 0]].toList 8 = some ([.agg [.lit (.bool false), .lit (.bool false), .nil]], [], places) :=
  ⟨[], by kernel_rfl⟩
set_option maxRecDepth 100000 in
theorem lifted (os : Os) (started : os.Started) (H : Type) (enc : TypeId × Value → H) (F : Stop.Interp) :
    ReturnsInHanded {} Tryz.checked os 5 .any ((OpenSpec.ofChange Rows.unaryBackSpec).preRow enc Tryz.prog Tryz.f5 Rows.unaryBackRow.domain false Rows.unaryBackRow.laid) (((OpenSpec.ofChange Rows.unaryBackSpec).at F).post enc Tryz.prog Tryz.f5 false true false false) := by
  obtain ⟨places, hx⟩ := reads os enc
  refine returnsInHanded_of_row (C := Tryz.checked) (s := (OpenSpec.ofChange Rows.unaryBackSpec)) own started (by kernel_rfl) Tryz.func5
    (witness_row_at (enc := enc) (C := Tryz.checked) false (laidWorld os) #[.agg #[.bool false, .bool false, .slice none 0 0]] rfl (by kernel_rfl) (by kernel_rfl) (by kernel_rfl)
      (OpenSpec.preRow_of_cond 8 hx (by kernel_rfl) (fun k hk => by cases hk) (by kernel_rfl) (laid_met os))) ?_
  intro W base args ds gs before hval0 hW _ hk hwt hL hsh _
  have hval : ∀ (j : Nat) t v, Tryz.f5.params[j]? = some t → args[j]? = some v → Value.okWide Tryz.prog W .any base t v := hval0
  have hW' := hW
  obtain ⟨p, q, hA0, hV, rfl, hfz, hnd⟩ := hW
  have hA : DataW.TrodAll enc Tryz.prog W 0 (fun _ => true) true Tryz.f5.params.toList args.toList ds p := hA0
  rw [Tryz.params5] at hA hval
  obtain ⟨v0, vs0, d0, ds0, p0, q0, hargs, rfl, rfl, h0, r0⟩ := trodAll_cons hA
  obtain ⟨rfl, rfl, rfl⟩ := trodAll_nil r0
  obtain rfl : args = #[v0] := by cases args; simp_all
  obtain ⟨rfl, rfl⟩ := trodVars_none hV
  have htab := table hL
  obtain ⟨m, hm, hlt⟩ := maxLenCell hsh
  obtain ⟨t, A, c, rfl, hM, hc, hcm, hok⟩ := open_tests (hval 0 47 v0 rfl rfl) h0
  simp only [List.append_nil] at hW'
  refine (uback_any hTA t A c m W ⟨hm, hlt, u8 hL, htab⟩ hM hok).mono fun e W' ⟨he, hb⟩ => ?_
  subst he
  exact ⟨_, rfl, law_post (tb := 4) laidOut (by kernel_rfl) (by kernel_rfl) Tryz.underlying4 rfl rfl hW' hb⟩

set_option maxHeartbeats 8000000 in
theorem closed : joinedFacts Tryz.pinned.checked.prog 5 Tryz.f5 (OpenSpec.ofChange Rows.unaryBackSpec).bare Rows.unaryBackRow = true := by
  simp only [joinedFacts, Bool.and_eq_true]
  (repeat' apply And.intro)
  all_goals (as_aux_lemma => kernel_rfl)
theorem said : Rows.UnaryBackSaid :=
  OpenClaim.holds_of_cond 5 Tryz.f5 rfl rfl rfl rfl rfl rfl rfl ⟨rfl, rfl, rfl, rfl, rfl⟩ rfl rfl rfl rfl rfl (by kernel_rfl) Tryz.func5 closed
    (of_decide_eq_true (by kernel_rfl)) (by unfold Func.isWrapper; first | (rw [if_pos (by decide +kernel)]; kernel_rfl) | (rw [if_neg (by decide +kernel)]; exact ⟨rfl, rfl⟩))
    (fun os started H enc _ F => by rw [OpenClaim.pre_eq_preRow]; exact lifted os started H enc F)

theorem plain (f : FuncId) (fn : Func) (hf : Tryz.pinned.checked.prog.funcNamed "soffit/soffitlaw09.UnaryBack" = some f) (hfn : Tryz.pinned.checked.prog.funcs[f]? = some fn) :
    true = Tryz.pinned.checked.prog.looks [] ∧ ∀ (j : Nat) t, fn.params[j]? = some t → Tryz.pinned.checked.prog.wantsStandIn t = false := by
  obtain rfl : f = 5 := Option.some.inj ((show Tryz.prog.funcNamed "soffit/soffitlaw09.UnaryBack" = some 5 by kernel_rfl).symm.trans hf) |>.symm
  obtain rfl : fn = Tryz.f5 := (Option.some.inj (Tryz.func5.symm.trans hfn)).symm
  refine ⟨by kernel_rfl, fun j t ht => ?_⟩
  rw [Tryz.params5] at ht
  have hm := Array.mem_of_getElem? ht
  have hall : (Tryz.f5.params.all fun u => !Tryz.prog.wantsStandIn u) = true := by kernel_rfl
  rw [Tryz.params5, Array.all_eq_true'] at hall
  have h := hall t hm
  have h3 : Tryz.prog.wantsStandIn t = false := by simpa using h
  exact h3

theorem proved : Rows.UnaryBackCardSaid :=
  Claim7.holds_tied_plain_at .later [] _ _ _ _ said (fun _ h => by cases h) (by kernel_rfl) (fun _ h => by cases h) unaryBack_row_tie rfl ⟨rfl, rfl⟩ (by kernel_rfl) rfl plain (by kernel_rfl)
#print axioms proved
end Go.Proofs.YtkkeplmaphcblaaGreatDoor.lawUBack
