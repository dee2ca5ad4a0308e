/- The walk of DeciUnits. -/
import Derived.Test.YteljkkfnnmikkaaDoorAwake
import Derived.Test.YteljkkfnnmikkaaDoorRefAt
namespace Go.Proofs.YteljkkfnnmikkaaDoor
open Go.RowKit
attribute [local go_sem high] run_dec_eql run_dec_neq

set_option maxHeartbeats 2000000 in
set_option maxRecDepth 100000 in
theorem unitslaw_any (m n s c : Int) (hn : I64 n) (hs : I64 s) (w : World) (hm : w.cell? ⟨3, 0, none⟩ = some (.int .i64 m)) (hlt : 3 < w.heap.size) (htab : Lib.TabIs Tryd.prog w "internal/strconv.uint64pow10" .u64 Lib.pow10Tab) :
    Calls Tryd.prog 6 #[.agg #[.int .i64 n, .int .i64 s], .int .i64 c] w fun e w' => e = .returned (.bool true) ∧ Below w.heap.size w w' := by
  have HT := Lib.hid (Lib.tabBelow_of_tabIs htab)
  have HM : Hid (∀ w', Below w.heap.size w w' → w'.cell? ⟨3, 0, none⟩ = some (.int .i64 m)) := fun w' hb => ((bcell hb).1 _ _ hlt).trans hm
  have HN : Hid (I64 n ∧ I64 s) := ⟨hn, hs⟩
  clear htab hm hn hs
  have hb0 := Blk.new w 23 #[.int .i64 n, .int .i64 s]
  go_enter Tryd.func6, Tryd.ntmps6
  go_wp2_with fail
  refine (at_any n s c HN.out.1 HN.out.2 _).mono ?_
  rintro e w1 ⟨rfl, hb⟩
  replace hb0 := hb0.step hb
  have c0 := hb0.cell 0
  have c1 := hb0.cell 1
  simp at c0 c1
  go_wp2_with fail
  refine (rat_any n s c HN.out.1 HN.out.2 _).mono ?_
  rintro e w2 ⟨rfl, hb2⟩
  go_wp2_with fail
  refine (awake_any m _ (HM.out _ (by (repeat' (first | (with_reducible exact Below.refl _ _) | (with_reducible assumption) | (with_reducible refine balloc ?_ _) | (with_reducible refine Below.drew ?_) | (with_reducible refine bset ?_ ?_ _) | (with_reducible refine bstep ?_ (by with_reducible assumption)) | (with_reducible refine bturn ?_ (by with_reducible assumption) ?_) | go_size)))) (HT.out _ (by (repeat' (first | (with_reducible exact Below.refl _ _) | (with_reducible assumption) | (with_reducible refine balloc ?_ _) | (with_reducible refine Below.drew ?_) | (with_reducible refine bset ?_ ?_ _) | (with_reducible refine bstep ?_ (by with_reducible assumption)) | (with_reducible refine bturn ?_ (by with_reducible assumption) ?_) | go_size))))).mono ?_
  rintro e w3 ⟨rfl, hb3⟩
  go_wp2_with fail
  go_ret
  exact ⟨by simp, by (repeat' (first | (with_reducible exact Below.refl _ _) | (with_reducible assumption) | (with_reducible refine balloc ?_ _) | (with_reducible refine Below.drew ?_) | (with_reducible refine bset ?_ ?_ _) | (with_reducible refine bstep ?_ (by with_reducible assumption)) | (with_reducible refine bturn ?_ (by with_reducible assumption) ?_) | go_size))⟩
end Go.Proofs.YteljkkfnnmikkaaDoor
