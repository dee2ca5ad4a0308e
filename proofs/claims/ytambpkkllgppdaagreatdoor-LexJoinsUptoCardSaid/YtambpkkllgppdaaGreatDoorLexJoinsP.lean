/- For every list of tokens (api.Token), where what is read is of bulk at most 1048576, the law LexJoins of package soffitlaw07 answers true: the bound of the second form is the one condition. -/
import Derived.Test.YtambpkkllgppdaaGreatDoorRJnP
import Derived.Test.YtambpkkllgppdaaGreatDoorLexLaid
namespace Go.Proofs.YtambpkkllgppdaaGreatDoor.lawJoins
open Go.ChangeShapes Go.WideShapes Go.ChangeAt Go.RowKit

theorem table {W : World} (h : laidMetH Tryz.prog Rows.lexJoinsUptoRow.laid W) : Lib.TabIs Tryz.prog W "internal/strconv.uint64pow10" .u64 Lib.pow10Tab := keepTab h (by kernel_rfl)
theorem u8 {W : World} (h : laidMetH Tryz.prog Rows.lexJoinsUptoRow.laid W) : U8T W := keepU8 h (by kernel_rfl) (by kernel_rfl)

noncomputable def laidWorld (os : Os) : World := World.laidAll Tryz.prog os Rows.lexJoinsUptoRow.laid
theorem laid_met (os : Os) : laidMet Tryz.prog Rows.lexJoinsUptoRow.laid ((laidWorld os).forCall (fun _ _ => 0) ⟨#[], #[.slice none 0 0], []⟩).memory := laidMet_laidAll _ (by kernel_rfl) (by kernel_rfl)
theorem reads (os : Os) {H : Type} (enc : TypeId × Value → H) : ∃ places, DataW.whole enc Tryz.prog ((laidWorld os).forCall (fun _ _ => 0) ⟨#[], #[.slice none 0 0], []⟩).memory Tryz.f4.params.toList Rows.lexJoinsSpec.vars false #[.slice none 0 0].toList 8 = some ([.nil], [], places) :=
  ⟨[], by kernel_rfl⟩
set_option maxRecDepth 100000 in
theorem lifted (os : Os) (started : os.Started) (H : Type) (enc : TypeId × Value → H) (F : Stop.Interp) :
    ReturnsInHanded {} Tryz.checked os 4 .any ((Rows.OpenSpec.upto Rows.lexJoinsSpec).preRow enc Tryz.prog Tryz.f4 Rows.lexJoinsUptoRow.domain false Rows.lexJoinsUptoRow.laid) (((Rows.OpenSpec.upto Rows.lexJoinsSpec).at F).post enc Tryz.prog Tryz.f4 false true false false) := by
  obtain ⟨places, hx⟩ := reads os enc
  refine returnsInHanded_of_row (C := Tryz.checked) (s := (Rows.OpenSpec.upto Rows.lexJoinsSpec)) own started (by kernel_rfl) Tryz.func4
    (witness_row_at (enc := enc) (C := Tryz.checked) false (laidWorld os) #[.slice none 0 0] rfl (by kernel_rfl) (by kernel_rfl) (by kernel_rfl)
      (OpenSpec.preRow_of_cond 8 hx (by kernel_rfl) (fun k hk => by cases hk; kernel_rfl) (by kernel_rfl) (laid_met os))) ?_
  intro W base args ds gs before hval0 hW _ hk hwt hL hsh _
  have hval : ∀ (j : Nat) t v, Tryz.f4.params[j]? = some t → args[j]? = some v → Value.okWide Tryz.prog W .any base t v := hval0
  have hW' := hW
  obtain ⟨p, q, hA0, hV, rfl, hfz, hnd⟩ := hW
  have hA : DataW.TrodAll enc Tryz.prog W 0 (fun _ => true) true Tryz.f4.params.toList args.toList ds p := hA0
  rw [Tryz.params4] at hA hval
  obtain ⟨v0, vs0, d0, ds0, p0, q0, hargs, rfl, rfl, h0, r0⟩ := trodAll_cons hA
  obtain ⟨rfl, rfl, rfl⟩ := trodAll_nil r0
  obtain rfl : args = #[v0] := by cases args; simp_all
  obtain ⟨rfl, rfl⟩ := trodVars_none hV
  have htab := table hL
  obtain ⟨m, hm, hlt⟩ := maxLenCell hsh
  obtain ⟨A, c, L, rfl, hM, hc, hcm, hT, hlen⟩ := open_toks (hval 0 22 v0 rfl rfl) h0
  have hbulk := bulks.bound (hk Rows.uptoSmall rfl)
  simp only [List.cons_append, List.nil_append, List.append_nil, Rows.uptoBulkAll] at hbulk
  have hbd : Rows.uptoBulk d0 ≤ 1900000 := by omega
  simp only [List.cons_append, List.nil_append, List.append_nil] at hW'
  refine (joinslaw_any m A L.length c L rfl hc (fun t ht => ⟨(hT t ht).1, Nat.le_trans (hT t ht).2 hbd⟩) W ⟨hm, hlt, u8 hL, htab⟩ hM).mono fun e W' ⟨he, hb⟩ => ?_
  subst he
  exact ⟨_, rfl, law_post (tb := 4) laidOut (by kernel_rfl) (by kernel_rfl) Tryz.underlying4 rfl rfl hW' hb⟩

theorem said : Rows.LexJoinsUptoSaid :=
  OpenClaim.holds_of_cond 4 Tryz.f4 rfl rfl rfl rfl rfl rfl rfl ⟨rfl, rfl, rfl, rfl, rfl⟩ rfl rfl rfl rfl rfl (by kernel_rfl) Tryz.func4 (by kernel_rfl)
    (of_decide_eq_true (by kernel_rfl)) (by unfold Func.isWrapper; first | (rw [if_pos (by decide +kernel)]; kernel_rfl) | (rw [if_neg (by decide +kernel)]; exact ⟨rfl, rfl⟩))
    (fun os started H enc _ F => by rw [OpenClaim.pre_eq_preRow]; exact lifted os started H enc F)

theorem plain (f : FuncId) (fn : Func) (hf : Tryz.pinned.checked.prog.funcNamed "soffit/soffitlaw07.LexJoins" = some f) (hfn : Tryz.pinned.checked.prog.funcs[f]? = some fn) :
    true = Tryz.pinned.checked.prog.looks [] ∧ ∀ (j : Nat) t, fn.params[j]? = some t → Tryz.pinned.checked.prog.wantsStandIn t = false := by
  obtain rfl : f = 4 := Option.some.inj ((show Tryz.prog.funcNamed "soffit/soffitlaw07.LexJoins" = some 4 by kernel_rfl).symm.trans hf) |>.symm
  obtain rfl : fn = Tryz.f4 := (Option.some.inj (Tryz.func4.symm.trans hfn)).symm
  refine ⟨by kernel_rfl, fun j t ht => ?_⟩
  rw [Tryz.params4] at ht
  have hm := Array.mem_of_getElem? ht
  have hall : (Tryz.f4.params.all fun u => !Tryz.prog.wantsStandIn u) = true := by kernel_rfl
  rw [Tryz.params4, Array.all_eq_true'] at hall
  have h := hall t hm
  have h3 : Tryz.prog.wantsStandIn t = false := by simpa using h
  exact h3

theorem proved : Rows.LexJoinsUptoCardSaid :=
  Claim7.holds_tied_plain_at .later [] _ _ _ _ said (fun _ h => by cases h) (by kernel_rfl) (fun _ h => by cases h) lexJoinsUpto_row_tie rfl ⟨rfl, rfl⟩ (by kernel_rfl) rfl plain (by kernel_rfl)
#print axioms proved
end Go.Proofs.YtambpkkllgppdaaGreatDoor.lawJoins
