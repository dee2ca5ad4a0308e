/- The walk of DeciDivides. -/
import Derived.Test.YteljkkfnnmikkaaDoorAwake
import Derived.Test.YteljkkfnnmikkaaDoorDivEq
namespace Go.Proofs.YteljkkfnnmikkaaDoor
open Go.RowKit
attribute [local go_sem high] run_dec_eql run_dec_neq

set_option maxHeartbeats 2000000 in
set_option maxRecDepth 100000 in
theorem divlaw_any (m n s n2 s2 : Int) (hn : I64 n) (hs : I64 s) (hn2 : I64 n2) (hs2 : I64 s2) (w : World) (hm : w.cell? ⟨3, 0, none⟩ = some (.int .i64 m)) (hlt : 3 < w.heap.size) (htab : Lib.TabIs Tryd.prog w "internal/strconv.uint64pow10" .u64 Lib.pow10Tab) :
    Calls Tryd.prog 4 #[.agg #[.int .i64 n, .int .i64 s], .agg #[.int .i64 n2, .int .i64 s2]] w fun e w' => e = .returned (.bool true) ∧ Below w.heap.size w w' := by
  have HT := Lib.hid (Lib.tabBelow_of_tabIs htab)
  have HM : Hid (∀ w', Below w.heap.size w w' → w'.cell? ⟨3, 0, none⟩ = some (.int .i64 m)) := fun w' hb => ((bcell hb).1 _ _ hlt).trans hm
  have HN : Hid ((I64 n ∧ I64 s) ∧ I64 n2 ∧ I64 s2) := ⟨⟨hn, hs⟩, hn2, hs2⟩
  clear htab hm hn hs hn2 hs2
  have HAa := Lib.hid (div_any n s n2 s2 HN.out.1.1 HN.out.1.2 HN.out.2.1 HN.out.2.2)
  have HAr := Lib.hid (rdiv_any n s n2 s2 HN.out.1.1 HN.out.1.2 HN.out.2.1 HN.out.2.2)
  generalize divS n s n2 s2 = r at *
  have hb0 := (Blk.new w 23 #[.int .i64 n, .int .i64 s]).alloc (.cells #[.int .i64 n2, .int .i64 s2] 23)
  have hb2 := Blk.new' (w.alloc (.cells #[.int .i64 n, .int .i64 s] 23)) 23 #[.int .i64 n2, .int .i64 s2] (n := w.heap.size + 1) (by simp)
  go_enter Tryd.func4, Tryd.ntmps4
  go_wp2_with fail
  refine (HAa.out _).mono ?_
  rintro e w1 ⟨rfl, hb⟩
  replace hb0 := hb0.step hb
  replace hb2 := hb2.step hb
  replace hb0 := hb0.alloc (.cells #[.int .i64 r.n, .int .i64 r.s] 23)
  replace hb2 := hb2.alloc (.cells #[.int .i64 r.n, .int .i64 r.s] 23)
  have c0 := hb0.cell 0
  have c1 := hb0.cell 1
  have e0 := hb2.cell 0
  have e1 := hb2.cell 1
  simp at c0 c1 e0 e1
  go_wp2_with fail
  refine (HAr.out _).mono ?_
  rintro e w2 ⟨rfl, hb3⟩
  have b5 := ((Blk.new w1 23 #[.int .i64 r.n, .int .i64 r.s]).step hb3).alloc (.cells #[.int .i64 r.n, .int .i64 r.s] 23)
  have b7 := Blk.new w2 23 #[.int .i64 r.n, .int .i64 r.s]
  clear c0 c1 e0 e1 hb0 hb2
  go_wp2_with fail
  refine (awake_any m _ (HM.out _ (by (repeat' (first | (with_reducible exact Below.refl _ _) | (with_reducible assumption) | (with_reducible refine balloc ?_ _) | (with_reducible refine Below.drew ?_) | (with_reducible refine bset ?_ ?_ _) | (with_reducible refine bstep ?_ (by with_reducible assumption)) | (with_reducible refine bturn ?_ (by with_reducible assumption) ?_) | go_size)))) (HT.out _ (by (repeat' (first | (with_reducible exact Below.refl _ _) | (with_reducible assumption) | (with_reducible refine balloc ?_ _) | (with_reducible refine Below.drew ?_) | (with_reducible refine bset ?_ ?_ _) | (with_reducible refine bstep ?_ (by with_reducible assumption)) | (with_reducible refine bturn ?_ (by with_reducible assumption) ?_) | go_size))))).mono ?_
  rintro e w3 ⟨rfl, hb4⟩
  replace b5 := b5.step hb4
  replace b7 := b7.step hb4
  have x0 := b5.cell 0
  have x1 := b5.cell 1
  have y0 := b7.cell 0
  have y1 := b7.cell 1
  simp at x0 x1 y0 y1
  go_wp2
  go_ret
  exact ⟨by simp, by (repeat' (first | (with_reducible exact Below.refl _ _) | (with_reducible assumption) | (with_reducible refine balloc ?_ _) | (with_reducible refine Below.drew ?_) | (with_reducible refine bset ?_ ?_ _) | (with_reducible refine bstep ?_ (by with_reducible assumption)) | (with_reducible refine bturn ?_ (by with_reducible assumption) ?_) | go_size))⟩
end Go.Proofs.YteljkkfnnmikkaaDoor
