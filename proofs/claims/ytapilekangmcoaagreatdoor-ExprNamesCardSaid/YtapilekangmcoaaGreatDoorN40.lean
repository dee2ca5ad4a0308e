/- What the rows' lists of package-level variables give to the walks of package lex. -/
import Derived.Test.YtapilekangmcoaaGreatDoorCards
import Derived.Test.YtapilekangmcoaaGreatDoorTie
import Derived.LaidSub
import Derived.LaidMore
import Derived.Lay
import Derived.SevenTiedAt
import Derived.Stop.Joined
import Derived.Deep.DeepHandedRow
import Derived.Lib.LaidTab
import Derived.PinnedBridge
import Derived.ChangeMaps5
import Derived.SizedLaws
import Derived.Test.YtapilekangmcoaaGreatDoorN19
set_option linter.unusedVariables false
set_option linter.unusedSimpArgs false
set_option maxHeartbeats 8000000
set_option maxRecDepth 100000
namespace Go.Proofs.YtapilekangmcoaaGreatDoor
open Go.ChangeShapes Go.WideShapes Go.ChangeAt Go.RowKit
theorem keepTab {W : World} {l : List (String × DataW Unit)} (h : laidMetH Tryz.prog l W)
   (e : (l.filter fun x => x.1 == "internal/strconv.uint64pow10") = [("internal/strconv.uint64pow10", Lib.tabData .u64 Lib.pow10Tab)]) :
   Lib.TabIs Tryz.prog W "internal/strconv.uint64pow10" .u64 Lib.pow10Tab := by
 have h2 := h.filter (fun x => x.1 == "internal/strconv.uint64pow10")
 rw [e] at h2
 exact Lib.tabIs_of_head (g := 8) (rest := []) (by kernel_rfl) (t := 271) (by kernel_rfl) Tryz.underlying271 Tryz.underlying136 (by kernel_rfl) (by kernel_rfl) h2
theorem keepU8 {W : World} {l : List (String × DataW Unit)} (h : laidMetH Tryz.prog l W)
   (e1 : (l.filter fun x => x.1 == "unicode/utf8.first") = [("unicode/utf8.first", Lib.firstData)])
   (e2 : (l.filter fun x => x.1 == "unicode/utf8.acceptRanges") = [("unicode/utf8.acceptRanges", Lib.acceptData)]) : U8T W := by
 have h2 := h.filter (fun x => x.1 == "unicode/utf8.first")
 rw [e1] at h2
 have h3 := h.filter (fun x => x.1 == "unicode/utf8.acceptRanges")
 rw [e2] at h3
 have r2 : Lib.VarReads Tryz.prog W "unicode/utf8.first" Lib.firstData := Lib.laidMet.reads (l := [("unicode/utf8.first", Lib.firstData)]) h2 (List.mem_cons_self ..)
 have r3 : Lib.VarReads Tryz.prog W "unicode/utf8.acceptRanges" Lib.acceptData := Lib.laidMet.reads (l := [("unicode/utf8.acceptRanges", Lib.acceptData)]) h3 (List.mem_cons_self ..)
 exact utf8Tabs_of_readsT (U8Types.of260 Tryz.lays260) ⟨by kernel_rfl, by kernel_rfl, by kernel_rfl, by kernel_rfl, by kernel_rfl, by kernel_rfl, by kernel_rfl⟩ r2 r3
theorem maxLenCell {W : World} (h : W.ShapedOpen Tryz.prog) : ∃ m, W.cell? ⟨5, 0, none⟩ = some (.int .i64 m) ∧ 5 < W.heap.size := by
 obtain ⟨m, hm⟩ := Tryz.laysM219.s1_3 W h
 refine ⟨m, hm, ?_⟩
 apply Nat.lt_of_not_le
 intro hle
 have hm' : W.cell? ⟨5, 0, none⟩ = some (.int .i64 m) := hm
 simp [World.cell?, Array.getElem?_eq_none hle] at hm'
end Go.Proofs.YtapilekangmcoaaGreatDoor
