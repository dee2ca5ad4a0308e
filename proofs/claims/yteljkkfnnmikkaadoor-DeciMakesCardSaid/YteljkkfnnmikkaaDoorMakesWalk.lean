/- The walk of DeciMakes. -/
import Derived.Test.YteljkkfnnmikkaaDoorAwake
import Derived.Test.YteljkkfnnmikkaaDoorRefA
namespace Go.Proofs.YteljkkfnnmikkaaDoor
open Go.RowKit
attribute [local go_sem high] run_dec_eql run_dec_neq

set_option maxHeartbeats 2000000 in
set_option maxRecDepth 100000 in
theorem makes_any (m n s : Int) (hn : I64 n) (hs : I64 s) (w : World) (hm : w.cell? ⟨3, 0, none⟩ = some (.int .i64 m)) (hlt : 3 < w.heap.size) (htab : Lib.TabIs Tryd.prog w "internal/strconv.uint64pow10" .u64 Lib.pow10Tab) :
    Calls Tryd.prog 3 #[.int .i64 n, .int .i64 s] w fun e w' => e = .returned (.bool true) ∧ Below w.heap.size w w' := by
  have HT := Lib.hid (Lib.tabBelow_of_tabIs htab)
  have HM : Hid (∀ w', Below w.heap.size w w' → w'.cell? ⟨3, 0, none⟩ = some (.int .i64 m)) := fun w' hb => ((bcell hb).1 _ _ hlt).trans hm
  have HN : Hid (I64 n ∧ I64 s) := ⟨hn, hs⟩
  clear htab hm hn hs
  go_enter Tryd.func3, Tryd.ntmps3
  go_wp2_with fail
  refine (make_any n s HN.out.1.1 HN.out.1.2 HN.out.2.1 HN.out.2.2 _).mono ?_
  rintro e w1 ⟨rfl, hb⟩
  go_wp2_with fail
  refine (rmake_any n s HN.out.1.1 HN.out.1.2 HN.out.2.1 HN.out.2.2 _).mono ?_
  rintro e w2 ⟨rfl, hb2⟩
  go_wp2_with fail
  have b5 := (((Blk.new w1 23 #[.int .i64 (makeS n s).n, .int .i64 (makeS n s).s]).step hb2).alloc (.cells #[.int .i64 (makeS n s).n, .int .i64 (makeS n s).s] 23)).alloc (.cells #[.int .i64 n, .int .i64 s] 23)
  have b7 := (Blk.new w2 23 #[.int .i64 (makeS n s).n, .int .i64 (makeS n s).s]).alloc (.cells #[.int .i64 n, .int .i64 s] 23)
  have b9 := Blk.new' (w2.alloc (.cells #[.int .i64 (makeS n s).n, .int .i64 (makeS n s).s] 23)) 23 #[.int .i64 n, .int .i64 s] (n := w2.heap.size + 1) (by simp)
  have hB : Below w.heap.size w ((w2.alloc (.cells #[.int .i64 (makeS n s).n, .int .i64 (makeS n s).s] 23)).alloc (.cells #[.int .i64 n, .int .i64 s] 23)) := by (repeat' (first | (with_reducible exact Below.refl _ _) | (with_reducible assumption) | (with_reducible refine balloc ?_ _) | (with_reducible refine Below.drew ?_) | (with_reducible refine bset ?_ ?_ _) | (with_reducible refine bstep ?_ (by with_reducible assumption)) | (with_reducible refine bturn ?_ (by with_reducible assumption) ?_) | go_size))
  have x0 := b5.cell 0
  have x1 := b5.cell 1
  have y0 := b7.cell 0
  have y1 := b7.cell 1
  have v0 := b9.cell 0
  have v1 := b9.cell 1
  simp at x0 x1 y0 y1 v0 v1
  clear b5 b7 b9
  go_region_held3 (fun w' => Below w.heap.size w w' ∧ (w'.cell? ⟨w1.heap.size, 0, none⟩ = some (.int .i64 (makeS n s).n) ∧ w'.cell? ⟨w1.heap.size, 1, none⟩ = some (.int .i64 (makeS n s).s)) ∧ (w'.cell? ⟨w2.heap.size, 0, none⟩ = some (.int .i64 (makeS n s).n) ∧ w'.cell? ⟨w2.heap.size, 1, none⟩ = some (.int .i64 (makeS n s).s)) ∧ w'.cell? ⟨w2.heap.size + 1, 0, none⟩ = some (.int .i64 n) ∧ w'.cell? ⟨w2.heap.size + 1, 1, none⟩ = some (.int .i64 s)) ((go_split_ands; (repeat' apply And.intro) <;> first | assumption | exact keep1 (by assumption) (by assumption) | ((repeat' (first | (with_reducible exact Below.refl _ _) | (with_reducible assumption) | (with_reducible refine balloc ?_ _) | (with_reducible refine Below.drew ?_) | (with_reducible refine bset ?_ ?_ _) | (with_reducible refine bstep ?_ (by with_reducible assumption)) | (with_reducible refine bturn ?_ (by with_reducible assumption) ?_) | go_size)))))
    (first
      | (go_at_call 11; refine (awake_any m _ (HM.out _ (by go_split_ands; (repeat' (first | (with_reducible exact Below.refl _ _) | (with_reducible assumption) | (with_reducible refine balloc ?_ _) | (with_reducible refine Below.drew ?_) | (with_reducible refine bset ?_ ?_ _) | (with_reducible refine bstep ?_ (by with_reducible assumption)) | (with_reducible refine bturn ?_ (by with_reducible assumption) ?_) | go_size)))) (HT.out _ (by go_split_ands; (repeat' (first | (with_reducible exact Below.refl _ _) | (with_reducible assumption) | (with_reducible refine balloc ?_ _) | (with_reducible refine Below.drew ?_) | (with_reducible refine bset ?_ ?_ _) | (with_reducible refine bstep ?_ (by with_reducible assumption)) | (with_reducible refine bturn ?_ (by with_reducible assumption) ?_) | go_size))))).mono ?_; rintro e w' ⟨rfl, hb'⟩)
      | (go_at_call 12; refine (sound_any n s HN.out.1.1 HN.out.1.2 HN.out.2.1 HN.out.2.2 _).mono ?_; rintro e w' ⟨rfl, hb'⟩)
      | (go_at_call 13; refine (rsound_any n s HN.out.1.1 HN.out.1.2 HN.out.2.1 HN.out.2.2 _).mono ?_; rintro e w' ⟨rfl, hb'⟩))
  go_split_ands
  go_wp2_with fail
  go_ret
  exact ⟨rfl, by (repeat' (first | (with_reducible exact Below.refl _ _) | (with_reducible assumption) | (with_reducible refine balloc ?_ _) | (with_reducible refine Below.drew ?_) | (with_reducible refine bset ?_ ?_ _) | (with_reducible refine bstep ?_ (by with_reducible assumption)) | (with_reducible refine bturn ?_ (by with_reducible assumption) ?_) | go_size))⟩
end Go.Proofs.YteljkkfnnmikkaaDoor
