/- awake: what every law of package deci calls. -/
import Derived.Test.YtlmcjnekkhdmiaaDoorTextA
import Derived.Test.YtlmcjnekkhdmiaaDoorDivA
set_option linter.unusedVariables false
set_option linter.unusedSimpArgs false
namespace Go.Proofs.YtlmcjnekkhdmiaaDoor
open Go.RowKit
attribute [local go_sem high] run_dec_eql run_dec_neq

set_option maxHeartbeats 2000000 in
set_option maxRecDepth 100000 in
theorem awake_any (m : Int) (w : World) (hm : w.cell? ⟨1, 0, none⟩ = some (.int .i64 m)) (htab : Lib.TabIs Tryd.prog w "internal/strconv.uint64pow10" .u64 Lib.pow10Tab) :
    Calls Tryd.prog 8 #[] w fun e w' => e = .returned (.bool true) ∧ Below w.heap.size w w' := by
  have HT := Lib.hid (Lib.tabBelow_of_tabIs htab)
  clear htab
  go_enter Tryd.func8, Tryd.ntmps8
  go_wp2_with fail
  refine (parse_awake m _ hm).mono ?_
  rintro e w1 ⟨rfl, hb⟩
  clear hm
  go_wp2_with fail
  refine (text_awake _ (HT.out _ (by (repeat' first | (with_reducible first | exact .refl _ _ | assumption | apply balloc | apply Below.drew | apply bset | refine bstep ?_ ‹_› | refine bturn ?_ ‹_› ?_) | go_size)))).mono ?_
  rintro e w2 ⟨rfl, hb2⟩
  go_wp2_with fail
  refine (div_awake _).mono ?_
  rintro e w3 ⟨rfl, hb3⟩
  go_wp2_with fail
  go_ret
  exact ⟨rfl, by (repeat' first | (with_reducible first | exact .refl _ _ | assumption | apply balloc | apply Below.drew | apply bset | refine bstep ?_ ‹_› | refine bturn ?_ ‹_› ?_) | go_size)⟩
end Go.Proofs.YtlmcjnekkhdmiaaDoor
