/- Bindings of names that came in as an argument: how they read. -/
import Derived.SizedLaws
import Derived.Test.YtapilekangmcoaaGreatDoorA55
import Derived.Test.YtapilekangmcoaaGreatDoorA23
set_option linter.unusedVariables false
set_option linter.unusedSimpArgs false
set_option maxHeartbeats 8000000
set_option maxRecDepth 100000
namespace Go.Proofs.YtapilekangmcoaaGreatDoor
open Go.ChangeShapes Go.WideShapes Go.ChangeAt Go.RowKit Go.Deep Go.Shelf
theorem eok_ev {x : Ex} (h : EOk x) : EV x := by
 induction h with
 | mk o v s kids _ _ hv _ _ _ _ ih => exact .mk o v s kids hv ih
theorem cells_bnd : Tryz.prog.cellsOf 27 = 6 := by kernel_rfl
section
variable {H : Type} {enc : TypeId × Value → H} {w : World} {base : Nat} {spare : Nat → Bool} {held : Bool}
theorem bnd_shape {fuel : Nat} {cs : List Value} {x : DataW H × List MemPlace} (h : DataW.trod enc Tryz.prog w base spare held fuel 27 cs = some x) : ∃ b : Bs × Vl, cs = clB b ∧ VOk b.2 := by
 obtain ⟨xs, n, _, _, hl, hxl, hf⟩ := DataW.trod_struct Tryz.underlying27 h
 rw [cells_bnd] at hl
 match cs, hl with
 | [c0, c1, c2, c3, c4, c5], _ =>
   match xs, hxl with
   | [y0, y1], _ =>
     have h0 := hf 0 _ rfl
     have h1 := hf 1 _ rfl
     simp only [cells_val, cells_string, List.drop_zero, List.drop_succ_cons, List.take_succ_cons, List.take_zero, List.getElem?_cons_zero, List.getElem?_cons_succ] at h0 h1
     obtain ⟨t, e0, _, _⟩ := DataW.trod_string Tryz.underlying9 h0
     obtain ⟨v, e1, _, hvo, _⟩ := val_shape h1
     unfold cellsV at e1
     cases e0; cases e1
     exact ⟨(t.data.toList, v), rfl, hvo⟩
theorem slice_data {P : Program} {S T : TypeId} (hu : P.underlying S = some (.slice T)) {fuel : Nat} {A : Option Addr} {len c : Nat} {x : DataW H × List MemPlace} (hf : DataW.trod enc P w base spare held fuel S [.slice A len c] = some x) : len = 0 ∨ ∃ el sp, x.1 = .slice el sp ∧ len ≤ el.length + sp.length := by
 rcases open_slice hu hf with ⟨hcs, _⟩ | ⟨a, len', cap', m, n, D, Pl, hcs, _, hl, hm, hmm, hx, hi⟩
 · simp at hcs
   obtain ⟨_, rfl, _⟩ := hcs
   exact .inl rfl
 · simp at hcs
   obtain ⟨_, rfl, _⟩ := hcs
   have hd : x.1 = .slice ((List.range len).map D) ((List.range (m - len)).map fun j => D (len + j)) := congrArg Prod.fst hx
   refine .inr ⟨_, _, hd, ?_⟩
   simp
theorem bytes_bnd : Tryz.prog.bytesOf 27 = 64 := by kernel_rfl
/-- How long a list of bindings can be, by the form's own reach. -/
theorem bnds_len {ts : List TypeId} {ds : List (DataW H)} (hwt : (DataW.weightsEach Tryz.prog ts ds).all (· ≤ reachBytes) = true) {j : Nat} (ht : ts[j]? = some 28) {d : DataW H} (hd : ds[j]? = some d) {n : Nat} (h : n = 0 ∨ ∃ el sp, d = .slice el sp ∧ n ≤ el.length + sp.length) : n ≤ 2199023255488 := by
 rcases h with rfl | ⟨el, sp, rfl, h⟩
 · omega
 · have b := sized_slice hwt ht hd Tryz.underlying28
   rw [bytes_bnd] at b
   unfold reachBytes at b
   omega
/-- A list of bindings that came in. -/
theorem open_bnds {r : Reach} {b0 : Nat} {v : Value} {d : DataW H} {p : List MemPlace} (hv : Value.okWide Tryz.prog w r b0 28 v) (h : DataW.Trod enc Tryz.prog w base spare held 28 v d p) :
   ∃ (A : Option Addr) (c : Nat) (L : List (Bs × Vl)), v = .slice A L.length c ∧ RM clB 6 w A L ∧ (∀ b ∈ L, VOk b.2) ∧ (L.length = 0 ∨ ∃ el sp, d = .slice el sp ∧ L.length ≤ el.length + sp.length) := by
 obtain ⟨a0, len, cap, rfl⟩ := okWide_slice Tryz.underlying28 hv
 obtain ⟨fuel, hf⟩ := h
 haveI : Inhabited (Bs × Vl) := ⟨([], zeroV)⟩
 obtain ⟨A, c, L, hcs, hM, _, _, hok⟩ := open_rm (cl := clB) clB_len (by decide) Tryz.underlying28 cells_bnd (Ok := fun b => VOk b.2) (fun _ _ _ => bnd_shape) hf
 have hcs' : [Value.slice a0 len cap] = [.slice A L.length c] := hcs
 cases hcs'
 exact ⟨a0, cap, L, rfl, hM, hok, slice_data Tryz.underlying28 hf⟩
/-- A binding that came in. -/
theorem open_bnd {r : Reach} {b0 : Nat} {v : Value} {d : DataW H} {p : List MemPlace} (hv : Value.okWide Tryz.prog w r b0 27 v) (h : DataW.Trod enc Tryz.prog w base spare held 27 v d p) :
   ∃ b : Bs × Vl, v = .agg (clB b).toArray ∧ VOk b.2 := by
 obtain ⟨cs, rfl, hsz⟩ := okWide_struct Tryz.underlying27 hv
 obtain ⟨fuel, hf⟩ := h
 obtain ⟨b, e, ho⟩ := bnd_shape hf
 refine ⟨b, ?_, ho⟩
 have e2 : cs.toList = (clB b).toArray.toList := e
 rw [Array.toList_inj.1 e2]
end
end Go.Proofs.YtapilekangmcoaaGreatDoor
