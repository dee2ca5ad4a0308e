/- What the rows' lists of package-level variables give to the walks of package calc. -/
import Derived.FnData
import Derived.Test.YtapilekangmcoaaGreatDoorA52
import Derived.Test.YtapilekangmcoaaGreatDoorA23
import Derived.Test.YtapilekangmcoaaGreatDoorA45
set_option linter.unusedVariables false
set_option linter.unusedSimpArgs false
set_option maxHeartbeats 8000000
set_option maxRecDepth 100000
namespace Go.Proofs.YtapilekangmcoaaGreatDoor
open Go.ChangeShapes Go.WideShapes Go.ChangeAt Go.RowKit
theorem keepNul {W : World} {l : List (String × DataW Unit)} (h : laidMetH Tryz.prog l W)
   (e : (l.filter fun x => x.1 == "soffit/calc.null") = [("soffit/calc.null", .agg [.lit (.int .i64 0), .agg [.lit (.int .i64 0), .lit (.int .i64 0)], .lit (.string []), .lit (.int .i64 0)])]) : NU W := by
 have h2 := h.filter (fun x => x.1 == "soffit/calc.null")
 rw [e] at h2
 have r2 : Lib.VarReads Tryz.prog W "soffit/calc.null" (.agg [.lit (.int .i64 0), .agg [.lit (.int .i64 0), .lit (.int .i64 0)], .lit (.string []), .lit (.int .i64 0)]) := Lib.laidMet.reads (l := [("soffit/calc.null", .agg [.lit (.int .i64 0), .agg [.lit (.int .i64 0), .lit (.int .i64 0)], .lit (.string []), .lit (.int .i64 0)])]) h2 (List.mem_cons_self ..)
 obtain ⟨g, t, cs, fuel, p, hg, hty, hvar, hd⟩ := r2
 obtain rfl : g = 0 := (Option.some.inj ((show Tryz.prog.globalNamed "soffit/calc.null" = some 0 by kernel_rfl).symm.trans hg)).symm
 obtain rfl : t = 25 := (Option.some.inj ((show (Tryz.prog.globals[0]?).map (·.type) = some 25 by kernel_rfl).symm.trans hty)).symm
 have hc := World.var?_cell hg hvar
 obtain ⟨xs, n, _, hx, hl, hxl, hf⟩ := DataW.trod_struct Tryz.underlying25 hd
 rw [cells_val] at hl
 have key : cs.toList = [.int .i64 0, .int .i64 0, .int .i64 0, .string ⟨#[]⟩, .int .i64 0] := by
   generalize cs.toList = L at hl hf
   match L, hl with
   | [c0, c1, c2, c3, c4], _ =>
     match xs, hxl with
     | [y0, y1, y2, y3], _ =>
       have hx1 := congrArg Prod.fst hx
       simp only [List.map_cons, List.map_nil, DataW.agg.injEq, List.cons.injEq, and_true] at hx1
       obtain ⟨x0, x1, x2, x3⟩ := hx1
       have h0 := hf 0 _ rfl
       have h1 := hf 1 _ rfl
       have h2 := hf 2 _ rfl
       have h3 := hf 3 _ rfl
       simp only [cells_int, cells_dec, cells_string, List.drop_zero, List.drop_succ_cons, List.take_succ_cons, List.take_zero, List.getElem?_cons_zero, List.getElem?_cons_succ] at h0 h1 h2 h3
       obtain ⟨k, e0, z0, _⟩ := DataW.trod_int Tryz.underlying3 h0
       obtain ⟨s, e2, z2, _⟩ := DataW.trod_string Tryz.underlying9 h2
       obtain ⟨m, e3, z3, _⟩ := DataW.trod_int Tryz.underlying3 h3
       obtain ⟨zs, n', _, hz, _, hzl, hg'⟩ := DataW.trod_struct Tryz.underlying23 h1
       match zs, hzl with
       | [w0, w1], _ =>
         have hz1 := congrArg Prod.fst hz
         rw [← x1] at hz1
         simp only [List.map_cons, List.map_nil, DataW.agg.injEq, List.cons.injEq, and_true] at hz1
         have g0 := hg' 0 _ rfl
         have g1 := hg' 1 _ rfl
         simp only [cells_int, List.drop_zero, List.drop_succ_cons, List.take_succ_cons, List.take_zero, List.getElem?_cons_zero, List.getElem?_cons_succ] at g0 g1
         obtain ⟨a, e4, z4, _⟩ := DataW.trod_int Tryz.underlying3 g0
         obtain ⟨b, e5, z5, _⟩ := DataW.trod_int Tryz.underlying3 g1
         rw [z0] at x0
         rw [z2] at x2
         rw [z3] at x3
         rw [z4, z5] at hz1
         simp at x0 x2 x3 hz1
         cases e0; cases e2; cases e3; cases e4; cases e5
         obtain rfl : s = ⟨#[]⟩ := by
           obtain ⟨d⟩ := s
           simp at x2
           rw [x2]
         obtain ⟨ha, hb⟩ := hz1
         subst ha hb x0 x3
         rfl
 have hlt : 0 < W.heap.size := by
   have := hc 0
   rw [← Array.getElem?_toList, key] at this
   exact block_lt_of_cell (a := ⟨0, 0, none⟩) this
 have hcell : ∀ i, W.cell? ⟨0, i, none⟩ = ([.int .i64 0, .int .i64 0, .int .i64 0, .string ⟨#[]⟩, .int .i64 0] : List Value)[i]? := fun i => by
   rw [hc i, ← Array.getElem?_toList, key]
 exact ⟨hcell 0, hcell 1, hcell 2, hcell 3, hcell 4, hlt⟩
/-- A value that came in. -/
theorem open_vl {H : Type} {enc : TypeId × Value → H} {w : World} {base : Nat} {spare : Nat → Bool} {held : Bool} {r : Reach} {b0 : Nat} {v : Value} {d : DataW H} {p : List MemPlace} (hv : Value.okWide Tryz.prog w r b0 25 v) (h : DataW.Trod enc Tryz.prog w base spare held 25 v d p) :
   ∃ a : Vl, v = .agg (cellsV a) ∧ I64 a.k ∧ VOk a ∧ a.t.length ≤ maxLen := by
 obtain ⟨cs, rfl, hsz⟩ := okWide_struct Tryz.underlying25 hv
 obtain ⟨fuel, hf⟩ := h
 obtain ⟨a, e, hk, ho, ht⟩ := val_shape hf
 refine ⟨a, ?_, hk, ho, ht⟩
 have e2 : cs.toList = (cellsV a).toList := e
 rw [Array.toList_inj.1 e2]
end Go.Proofs.YtapilekangmcoaaGreatDoor
